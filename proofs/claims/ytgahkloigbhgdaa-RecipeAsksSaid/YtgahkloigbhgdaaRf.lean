/- What becomes of a key (recipe.fates), in plain words: it can be built, if its act gives and all its needs can be built, within some number of steps. Conditions: none beyond what each statement names. -/
import Derived.Test.YtgahkloigbhgdaaRs
namespace Go.Proofs.Ytgahkloigbhgdaa.PR
open Go.RowKit Go.Proofs.YtgahkloigbhgdaaW.PrintWords Go.Proofs.YtgahkloigbhgdaaW.PrintLast Go.Proofs.YtgahkloigbhgdaaW.PrintMore

def act (l : List S43) (k : Int) : Int := (rd_T43 l k).f2
def valu (l : List S43) (k : Int) : Int := (rd_T43 l k).f3
/-- The sum of what some give, if all give. -/
def gsum (g : Int → Option Int) : List Int → Option Int
  | [] => some 0
  | m :: ms => match g m, gsum g ms with
    | some a, some b => some (a + b)
    | _, _ => none
/-- What a key gives, found within n steps. -/
def gv (l : List S43) : Nat → Int → Option Int
  | 0, _ => none
  | n + 1, k => if act l k = 0 then (gsum (gv l n) (nds l k)).map fun s => (valu l k + s) % 1000003 else none

theorem gsum_mono {g g' : Int → Option Int} (h : ∀ m v, g m = some v → g' m = some v) : ∀ ms v, gsum g ms = some v → gsum g' ms = some v := by
  intro ms
  induction ms with
  | nil => intro v h; exact h
  | cons m ms ih =>
    intro v hv
    simp only [gsum] at hv ⊢
    cases e1 : g m with
    | none => rw [e1] at hv; simp at hv
    | some a =>
      cases e2 : gsum g ms with
      | none => rw [e1, e2] at hv; simp at hv
      | some b => rw [e1, e2] at hv; rw [h m a e1, ih b e2]; exact hv
theorem gsum_all {g : Int → Option Int} : ∀ ms v, gsum g ms = some v → ∀ m ∈ ms, ∃ a, g m = some a := by
  intro ms
  induction ms with
  | nil => intro v _ m hm; cases hm
  | cons m ms ih =>
    intro v hv m' hm'
    simp only [gsum] at hv
    cases e1 : g m with
    | none => rw [e1] at hv; simp at hv
    | some a =>
      cases e2 : gsum g ms with
      | none => rw [e1, e2] at hv; simp at hv
      | some b =>
        rcases List.mem_cons.1 hm' with rfl | h
        · exact ⟨a, e1⟩
        · exact ih b e2 m' h
theorem gv_succ (l : List S43) : ∀ n k v, gv l n k = some v → gv l (n + 1) k = some v := by
  intro n
  induction n with
  | zero => intro k v h; cases h
  | succ n ih =>
    intro k v h
    rw [gv] at h ⊢
    split at h
    · rename_i ha
      rw [if_pos ha]
      cases e : gsum (gv l n) (nds l k) with
      | none => rw [e] at h; simp at h
      | some s => rw [e] at h; rw [gsum_mono (ih ·) _ _ e]; exact h
    · cases h
theorem gv_mono (l : List S43) {n n' : Nat} (h : n ≤ n') {k v : Int} (hv : gv l n k = some v) : gv l n' k = some v := by
  induction h with
  | refl => exact hv
  | step _ ih => exact gv_succ l _ k v ih
theorem gv_inj {l : List S43} {n n' : Nat} {k v v' : Int} (h : gv l n k = some v) (h' : gv l n' k = some v') : v = v' := by
  have a := gv_mono l (Nat.le_max_left n n') h
  have b := gv_mono l (Nat.le_max_right n n') h'
  rw [a] at b; exact Option.some.inj b
theorem gv_range {l : List S43} {n : Nat} {k v : Int} (h : gv l n k = some v) : 0 ≤ v ∧ v ≤ 1000002 := by
  cases n with
  | zero => cases h
  | succ n =>
    rw [gv] at h
    split at h
    · obtain ⟨s, _, rfl⟩ := Option.map_eq_some_iff.1 h
      omega
    · cases h

def Can (l : List S43) (k : Int) : Prop := ∃ n v, gv l n k = some v
open Classical in
/-- What becomes of a key. -/
noncomputable def fateOf (l : List S43) (k : Int) : S51 := if h : Can l k then ⟨true, h.choose_spec.choose⟩ else z51
theorem fate_of {l : List S43} {n : Nat} {k v : Int} (h : gv l n k = some v) : fateOf l k = ⟨true, v⟩ := by
  have hc : Can l k := ⟨n, v, h⟩
  unfold fateOf
  rw [dif_pos hc]
  have := gv_inj h hc.choose_spec.choose_spec
  rw [← this]
theorem fate_not {l : List S43} {k : Int} (h : ¬ Can l k) : fateOf l k = z51 := by unfold fateOf; rw [dif_neg h]
theorem fate_can {l : List S43} {k : Int} : (fateOf l k).f0 = true ↔ Can l k := by
  by_cases h : Can l k
  · obtain ⟨n, v, hv⟩ := h; rw [fate_of hv]; exact ⟨fun _ => ⟨n, v, hv⟩, fun _ => rfl⟩
  · rw [fate_not h]; exact ⟨fun x => by simp [z51] at x, fun x => absurd x h⟩
theorem fate_range (l : List S43) (k : Int) : 0 ≤ (fateOf l k).f1 ∧ (fateOf l k).f1 ≤ 1000002 := by
  by_cases h : Can l k
  · obtain ⟨n, v, hv⟩ := h; rw [fate_of hv]; exact gv_range hv
  · rw [fate_not h]; simp [z51]

/-- The sum of what the first i needs give. -/
noncomputable def part (l : List S43) (ms : List Int) : Int := (ms.map fun m => (fateOf l m).f1).sum
theorem gsum_fate {l : List S43} {n : Nat} : ∀ (ms : List Int) {v : Int}, gsum (gv l n) ms = some v → v = part l ms := by
  intro ms
  induction ms with
  | nil => intro v h; simp [gsum] at h; simp [part, ← h]
  | cons m ms ih =>
    intro v h
    simp only [gsum] at h
    cases e1 : gv l n m with
    | none => rw [e1] at h; simp at h
    | some a =>
      cases e2 : gsum (gv l n) ms with
      | none => rw [e1, e2] at h; simp at h
      | some b =>
        rw [e1, e2] at h
        have := ih e2
        simp only [Option.some.injEq] at h
        simp only [part, List.map_cons, List.sum_cons, fate_of e1] at this ⊢
        omega
theorem gsum_can {l : List S43} : ∀ (ms : List Int), (∀ m ∈ ms, Can l m) → ∃ n v, gsum (gv l n) ms = some v := by
  intro ms
  induction ms with
  | nil => intro _; exact ⟨0, 0, rfl⟩
  | cons m ms ih =>
    intro h
    obtain ⟨n1, v1, h1⟩ := h m (by simp)
    obtain ⟨n2, v2, h2⟩ := ih fun m' hm' => h m' (by simp [hm'])
    refine ⟨max n1 n2, v1 + v2, ?_⟩
    simp only [gsum]
    rw [gv_mono l (Nat.le_max_left n1 n2) h1, gsum_mono (fun m v hv => gv_mono l (Nat.le_max_right n1 n2) hv) ms v2 h2]
/-- A key whose act gives and all of whose needs can be built: what it gives. -/
theorem fate_yes {l : List S43} {k : Int} (ha : act l k = 0) (h : ∀ m ∈ nds l k, Can l m) : fateOf l k = ⟨true, (valu l k + part l (nds l k)) % 1000003⟩ := by
  obtain ⟨n, v, hv⟩ := gsum_can (nds l k) h
  have : gv l (n + 1) k = some ((valu l k + part l (nds l k)) % 1000003) := by
    rw [gv, if_pos ha, hv, gsum_fate _ hv]; rfl
  exact fate_of this
theorem can_iff {l : List S43} {k : Int} : Can l k ↔ act l k = 0 ∧ ∀ m ∈ nds l k, Can l m := by
  constructor
  · rintro ⟨n, v, h⟩
    cases n with
    | zero => cases h
    | succ n =>
      rw [gv] at h
      split at h
      · rename_i ha
        obtain ⟨s, hs, _⟩ := Option.map_eq_some_iff.1 h
        refine ⟨ha, fun m hm => ?_⟩
        obtain ⟨a, ha⟩ := gsum_all _ _ hs m hm
        exact ⟨n, a, ha⟩
      · cases h
  · rintro ⟨ha, h⟩
    have := fate_yes ha h
    exact fate_can.1 (by rw [this])
theorem gv_reach {l : List S43} {k m : Int} (h : Rch l k m) : ∀ {n : Nat} {v : Int}, gv l n k = some v → ∃ n' v', n' < n ∧ gv l n' m = some v' := by
  induction h with
  | one hm =>
    intro n v hv
    cases n with
    | zero => cases hv
    | succ n =>
      rw [gv] at hv
      split at hv
      · obtain ⟨s, hs, _⟩ := Option.map_eq_some_iff.1 hv
        obtain ⟨a, ha⟩ := gsum_all _ _ hs _ hm
        exact ⟨n, a, by omega, ha⟩
      · cases hv
  | more hm _ ih =>
    intro n v hv
    cases n with
    | zero => cases hv
    | succ n =>
      rw [gv] at hv
      split at hv
      · obtain ⟨s, hs, _⟩ := Option.map_eq_some_iff.1 hv
        obtain ⟨a, ha⟩ := gsum_all _ _ hs _ hm
        obtain ⟨n', v', h1, h2⟩ := ih ha
        exact ⟨n', v', by omega, h2⟩
      · cases hv
theorem can_reach {l : List S43} {k m : Int} (h : Can l k) (hr : Rch l k m) : Can l m := by
  obtain ⟨n, v, hv⟩ := h
  obtain ⟨n', v', _, h'⟩ := gv_reach hr hv
  exact ⟨n', v', h'⟩
/-- What reaches itself can't be built. -/
theorem ring_not {l : List S43} {k : Int} (hr : Rch l k k) : ¬ Can l k := by
  rintro ⟨n, v, hv⟩
  induction n using Nat.strongRecOn generalizing v with
  | _ n ih =>
    obtain ⟨n', v', h1, h2⟩ := gv_reach hr hv
    exact ih n' h1 v' h2

/-- Recipes whose needs are keys, and whose numbers are small. -/
structure Rgt (l : List S43) : Prop where
  vld : Vld l
  val : ∀ k, 0 ≤ k → k < (l.length : Int) → -1000 ≤ valu l k ∧ valu l k ≤ 1000

/-- The look under way: D: which keys were begun; F: what was found; P: those that are being looked at. -/
structure FI (l : List S43) (P : Int → Prop) (D : List Bool) (F : List S51) : Prop where
  lenD : D.length = l.length
  lenF : F.length = l.length
  fresh : ∀ m, 0 ≤ m → m < (l.length : Int) → rdOf false D m = false → rd_T51 F m = z51
  going : ∀ m, 0 ≤ m → m < (l.length : Int) → P m → rdOf false D m = true ∧ rd_T51 F m = z51
  done : ∀ m, 0 ≤ m → m < (l.length : Int) → rdOf false D m = true → ¬ P m → rd_T51 F m = fateOf l m

theorem FI.start (l : List S43) : FI l (fun _ => False) (List.replicate l.length false) (List.replicate l.length z51) where
  lenD := by simp
  lenF := by simp
  fresh := fun m h0 h1 _ => by simp [rd_T51, List.getD_eq_getElem?_getD, List.getElem?_replicate]; split <;> rfl
  going := fun m h0 h1 h => h.elim
  done := fun m h0 h1 h _ => by simp [rdOf, List.getD_eq_getElem?_getD, List.getElem?_replicate] at h; split at h <;> simp at h
/-- What is asked for of a key that was begun is what becomes of it. -/
theorem FI.told {l : List S43} {P : Int → Prop} {D : List Bool} {F : List S51} (h : FI l P D F) {k : Int} (h0 : 0 ≤ k) (h1 : k < (l.length : Int)) (hd : rdOf false D k = true) (hP : ∀ p, P p → Rch l p k) : rd_T51 F k = fateOf l k := by
  by_cases hp : P k
  · rw [(h.going k h0 h1 hp).2, fate_not (ring_not (hP k hp))]
  · exact h.done k h0 h1 hd hp
/-- A key is begun. -/
theorem FI.begin {l : List S43} {P : Int → Prop} {D : List Bool} {F : List S51} (h : FI l P D F) {k : Int} (h0 : 0 ≤ k) (h1 : k < (l.length : Int)) (hd : rdOf false D k = false) : FI l (fun m => P m ∨ m = k) (D.set k.toNat true) F := by
  have hrd : ∀ j, 0 ≤ j → rdOf false (D.set k.toNat true) j = if j = k then true else rdOf false D j := fun j hj => rdOf_set h0 (by rw [h.lenD]; exact h1) hj
  refine ⟨by simp [h.lenD], h.lenF, fun m m0 m1 hm => ?_, fun m m0 m1 hm => ?_, fun m m0 m1 hm hn => ?_⟩
  · rw [hrd m m0] at hm
    split at hm
    · cases hm
    · exact h.fresh m m0 m1 hm
  · rw [hrd m m0]
    rcases hm with hm | rfl
    · obtain ⟨a, b⟩ := h.going m m0 m1 hm
      rw [a]; exact ⟨by split <;> rfl, b⟩
    · rw [if_pos rfl]; exact ⟨rfl, h.fresh m m0 m1 hd⟩
  · rw [hrd m m0, if_neg (fun e => hn (.inr e))] at hm
    exact h.done m m0 m1 hm fun hp => hn (.inl hp)
theorem rdF_set {F : List S51} {k m : Int} {x : S51} (h0 : 0 ≤ k) (hk : k < (F.length : Int)) (hm : 0 ≤ m) : rd_T51 (F.set k.toNat x) m = if m = k then x else rd_T51 F m := by
  unfold rd_T51
  rw [List.getD_eq_getElem?_getD, List.getD_eq_getElem?_getD, List.getElem?_set]
  by_cases e : m = k
  · subst e; rw [if_pos rfl, if_pos (by omega), if_pos rfl]; rfl
  · rw [if_neg (by omega), if_neg e]
/-- .. and ended: it can't be built. -/
theorem FI.endNo {l : List S43} {P : Int → Prop} {D : List Bool} {F : List S51} {k : Int} (h : FI l (fun m => P m ∨ m = k) D F) (h0 : 0 ≤ k) (h1 : k < (l.length : Int)) (hk : ¬ Can l k) : FI l P D F :=
  ⟨h.lenD, h.lenF, h.fresh, fun m m0 m1 hm => h.going m m0 m1 (.inl hm), fun m m0 m1 hm hn => by
    by_cases e : m = k
    · subst e; rw [(h.going m m0 m1 (.inr rfl)).2, fate_not hk]
    · exact h.done m m0 m1 hm (fun x => x.elim hn e)⟩
/-- .. and ended: it can. -/
theorem FI.endYes {l : List S43} {P : Int → Prop} {D : List Bool} {F : List S51} {k : Int} {x : S51} (h : FI l (fun m => P m ∨ m = k) D F) (h0 : 0 ≤ k) (h1 : k < (l.length : Int)) (hx : x = fateOf l k) (hP : ¬ P k) : FI l P D (F.set k.toNat x) := by
  have hrd : ∀ j, 0 ≤ j → rd_T51 (F.set k.toNat x) j = if j = k then x else rd_T51 F j := fun j hj => rdF_set h0 (by rw [h.lenF]; exact h1) hj
  refine ⟨h.lenD, by simp [h.lenF], fun m m0 m1 hm => ?_, fun m m0 m1 hm => ?_, fun m m0 m1 hm hn => ?_⟩
  · rw [hrd m m0]
    split
    · rename_i e; subst e
      rw [(h.going m m0 m1 (.inr rfl)).1] at hm; cases hm
    · exact h.fresh m m0 m1 hm
  · obtain ⟨a, b⟩ := h.going m m0 m1 (.inl hm)
    rw [hrd m m0, if_neg (fun e => hP (by rw [← e]; exact hm))]
    exact ⟨a, b⟩
  · rw [hrd m m0]
    split
    · rename_i e; rw [e]; exact hx
    · rename_i e; exact h.done m m0 m1 hm (fun y => y.elim hn e)
end Go.Proofs.Ytgahkloigbhgdaa.PR
