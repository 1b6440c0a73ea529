/- RecipeOrders tells true. Conditions: none. -/
import Derived.Test.YtgahkloigbhgdaaPRy9
import Derived.Test.YtgahkloigbhgdaaRzb
import Derived.Test.YtgahkloigbhgdaaRu
namespace Go.Proofs.Ytgahkloigbhgdaa.PR
open Go.RowKit Go.Proofs.YtgahkloigbhgdaaW.PrintWords Go.Proofs.YtgahkloigbhgdaaW.PrintLast Go.Proofs.YtgahkloigbhgdaaW.PrintMore
set_option linter.unusedVariables false
set_option linter.unusedSimpArgs false

theorem and1023 (n : Int) : Go.bits .and .i64 n 1023 = n % 1024 := by
  have h1023 : (BitVec.ofInt 64 1023).toNat = 2 ^ 10 - 1 := by decide
  have key : (BitVec.ofInt 64 n &&& BitVec.ofInt 64 1023).toNat = (n % ((2 ^ 64 : Nat) : Int)).toNat % 2 ^ 10 := by
    rw [BitVec.toNat_and, BitVec.toNat_ofInt, h1023, Nat.and_two_pow_sub_one_eq_mod]
  show IntKind.i64.wrap ((BitVec.ofInt 64 n &&& BitVec.ofInt 64 1023).toNat : Nat) = n % 1024
  rw [key, IntKind.wrap_i64]
  omega
/-- The keys in another order. -/
noncomputable def turned (ks : List Int) (t : Int) : Nat → List Int
  | 0 => []
  | i + 1 => turned ks t i ++ [rd ks ((i + t % 1024) % (ks.length : Int))]
theorem turned_len (ks : List Int) (t : Int) : ∀ i, (turned ks t i).length = i
  | 0 => rfl
  | i + 1 => by simp [turned, turned_len ks t i]
theorem turned_at (ks : List Int) (t : Int) (i : Nat) : ∀ n, i < n → rd ks ((i + t % 1024) % (ks.length : Int)) ∈ turned ks t n := by
  intro n
  induction n with
  | zero => intro h; omega
  | succ n ih =>
    intro h
    simp only [turned, List.mem_append, List.mem_singleton]
    by_cases e : i = n
    · subst e; exact .inr rfl
    · exact .inl (ih (by omega))
theorem turned_in (ks : List Int) (t : Int) (hp : 0 < ks.length) : ∀ n, ∀ x ∈ turned ks t n, x ∈ ks := by
  intro n
  induction n with
  | zero => intro x hx; simp [turned] at hx
  | succ n ih =>
    intro x hx
    simp only [turned, List.mem_append, List.mem_singleton] at hx
    rcases hx with hx | rfl
    · exact ih x hx
    · have h0 : 0 ≤ ((n : Int) + t % 1024) % (ks.length : Int) := Int.emod_nonneg _ (by omega)
      have h1 := Int.emod_lt_of_pos ((n : Int) + t % 1024) (show 0 < (ks.length : Int) by omega)
      generalize ((n : Int) + t % 1024) % (ks.length : Int) = j at *
      simp [rd, show j.toNat < ks.length by omega]
theorem turned_all (ks : List Int) (t : Int) : ∀ x ∈ ks, x ∈ turned ks t ks.length := by
  intro x hx
  obtain ⟨j, hj, rfl⟩ := List.mem_iff_getElem.1 hx
  have hp : 0 < (ks.length : Int) := by omega
  have h0 : 0 ≤ ((j : Int) - t % 1024) % (ks.length : Int) := Int.emod_nonneg _ (by omega)
  have h1 := Int.emod_lt_of_pos ((j : Int) - t % 1024) hp
  have hi := turned_at ks t (((j : Int) - t % 1024) % (ks.length : Int)).toNat ks.length (by omega)
  rw [Int.toNat_of_nonneg h0] at hi
  have e : (((j : Int) - t % 1024) % (ks.length : Int) + t % 1024) % (ks.length : Int) = j := by
    rw [Int.emod_add_emod]
    rw [show (j : Int) - t % 1024 + t % 1024 = j by omega]
    exact Int.emod_eq_of_lt (by omega) (by omega)
  rw [e] at hi
  simpa [rd, hj] using hi
theorem told_same {l : List S43} {ks ks' O O' : List Int} (h : Told l ks O) (h' : Told l ks' O') (s : ∀ k ∈ ks, k ∈ ks') (s' : ∀ k ∈ ks', k ∈ ks) : (∀ k, k ∈ O' ↔ k ∈ O) ∧ O'.length = O.length := by
  have m : ∀ k, k ∈ O' ↔ k ∈ O := fun k => by
    rw [h.mem, h'.mem]
    exact ⟨fun ⟨a, b⟩ => ⟨a.mono s', b⟩, fun ⟨a, b⟩ => ⟨a.mono s, b⟩⟩
  exact ⟨m, ((List.perm_ext_iff_of_nodup h'.nod h.nod).2 m).length_eq⟩
section
variable {l : List S43} (hr : rightN l = 0) {ks : List Int} (h3 : ks.length ≤ 300) (tn : Int) {t : List (List Bool)} (ht : TB l.length t (Rch l)) {want : List Bool} (hw : BL l.length want (Ask l ks))
include hr h3 ht hw
theorem orders_l4 (told : List Bool) (htold : BL l.length told (· ∈ orderOf l ks)) (ag : List Int) (hag : ∀ k ∈ ag, k ∈ orderOf l ks) (hsm : ag.length ≤ 1000) :
    ∀ (d i : Nat), i + d = ag.length → Ev (fun K => butlerlaw11_RecipeOrders.l4 K l told ag i) true := by
  have _u := And.intro h3 (And.intro hw.len ht.len)
  have hv := (rgt_of hr).1.vld
  have O := order_told hr ks
  intro d
  induction d with
  | zero =>
    intro i hd
    refine Ev.step (f := fun _ => some true) (fun K => ?_) (Ev.now _)
    simp only [butlerlaw11_RecipeOrders.l4]; rw [if_neg (by omega)]
  | succ d ih =>
    intro i hd
    have hi : i < ag.length := by omega
    have hm : rd ag i ∈ orderOf l ks := hag _ (by simp [rd, hi])
    obtain ⟨m0, m1⟩ := ((O.mem _).1 hm).1.range hv
    have hs := (htold.say _ m0 m1).2 hm
    refine Ev.step (fun K => ?_) (ih (i + 1) (by omega))
    simp only [butlerlaw11_RecipeOrders.l4]
    rw [if_pos (by omega), if_pos (by omega), if_neg (by omega), if_neg (by omega), if_pos m0, if_pos (by rw [htold.len]; exact m1), if_pos hs, wrap_up (by omega) (by omega)]
    simp
theorem orders_l3 (told : List Bool) (htold : BL l.length told (· ∈ orderOf l ks)) :
    ∀ (d i : Nat), i + d = ks.length → Ev (fun K => butlerlaw11_RecipeOrders.l3 K l ks tn (orderOf l ks) told (turned ks tn i) i) true := by
  have _u := And.intro h3 (And.intro hw.len ht.len)
  have hv := (rgt_of hr).1.vld
  have O := order_told hr ks
  intro d
  induction d with
  | zero =>
    intro i hd
    obtain rfl : i = ks.length := by omega
    have O' := order_told hr (turned ks tn ks.length)
    obtain ⟨same, sl⟩ := told_same O O' (turned_all ks tn) (fun k hk => by
      by_cases hp : 0 < ks.length
      · exact turned_in ks tn hp _ k hk
      · have : ks.length = 0 := by omega
        rw [this] at hk; simp [turned] at hk)
    have hsm : (orderOf l (turned ks tn ks.length)).length ≤ 1000 := by
      unfold orderOf
      rw [if_pos hr]
      have := (askAll_keeps hv (turned ks tn ks.length)).1.few
      have := hv.few
      omega
    refine Ev.step (f := fun K => butlerlaw11_RecipeOrders.l4 K l told (orderOf l (turned ks tn ks.length)) 0) (fun K => ?_) (orders_l4 hr h3 ht hw told htold _ (fun k hk => (same k).1 hk) hsm (orderOf l (turned ks tn ks.length)).length 0 (by omega))
    simp only [butlerlaw11_RecipeOrders.l3, recipe_Order.f, Option.bind_some]
    rw [if_neg (by omega), if_pos (by omega)]
  | succ d ih =>
    intro i hd
    have hp : 0 < (ks.length : Int) := by omega
    have a0 : 0 ≤ ((i : Int) + tn % 1024) % (ks.length : Int) := Int.emod_nonneg _ (by omega)
    have a1 := Int.emod_lt_of_pos ((i : Int) + tn % 1024) hp
    have tl := turned_len ks tn i
    have e : Int.tmod (wrap64 ((i : Int) + Go.bits .and .i64 tn 1023)) (ks.length : Int) = ((i : Int) + tn % 1024) % (ks.length : Int) := by
      rw [and1023, show wrap64 ((i : Int) + tn % 1024) = (i : Int) + tn % 1024 by unfold wrap64; omega, Int.tmod_eq_emod_of_nonneg (by omega)]
    refine Ev.step (fun K => ?_) (ih (i + 1) (by omega))
    simp only [butlerlaw11_RecipeOrders.l3]
    rw [if_pos (by omega), if_neg (by omega), e, if_pos a0, if_pos a1, if_pos (by omega), wrap_up (by omega) (by omega)]
    simp [turned]
theorem orders_l2 (told : List Bool) (htold : BL l.length told (· ∈ orderOf l ks)) :
    ∀ (d i : Nat), i + d = l.length → Ev (fun K => butlerlaw11_RecipeOrders.l2 K l ks tn want (orderOf l ks) told i) true := by
  have _u := And.intro h3 (And.intro hw.len ht.len)
  have hv := (rgt_of hr).1.vld
  have few := hv.few
  have O := order_told hr ks
  intro d
  induction d with
  | zero =>
    intro i hd
    refine Ev.step (fun K => ?_) (orders_l3 hr h3 tn ht hw told htold ks.length 0 (by omega))
    simp only [butlerlaw11_RecipeOrders.l2]; rw [if_neg (by omega)]; rfl
  | succ d ih =>
    intro i hd
    have s1 := htold.say i (by omega) (by omega)
    have s2 := hw.say i (by omega) (by omega)
    rw [O.mem] at s1
    have next := ih (i + 1) (by omega)
    have lt := htold.len
    have lw := hw.len
    have fp : fateP l i = ((fateOf l i).f0, (fateOf l i).f1) := by unfold fateP; rw [if_pos ⟨hr, by omega, by omega⟩]
    refine Ev.step (f := fun K => (recipe_Fate.f K l i).bind fun bt294 => (if 0 ≤ (i : Int) then (if (i : Int) < (told.length : Int) then (if (i : Int) < (want.length : Int) then (if rdOf false want i = true then (if ((rdOf false told i) != bt294.1) = true then (some false) else (butlerlaw11_RecipeOrders.l2 K l ks tn want (orderOf l ks) told ((i + 1 : Nat) : Int))) else (if ((rdOf false told i) != false) = true then (some false) else (butlerlaw11_RecipeOrders.l2 K l ks tn want (orderOf l ks) told ((i + 1 : Nat) : Int)))) else (none)) else (none)) else (none))) (fun K => ?_) ?_
    · simp only [butlerlaw11_RecipeOrders.l2]
      rw [if_pos (by omega), wrap_up (by omega) (by omega)]; rfl
    · refine Ev.bind (f := fun K (bt294 : Bool × Int) => (if 0 ≤ (i : Int) then (if (i : Int) < (told.length : Int) then (if (i : Int) < (want.length : Int) then (if rdOf false want i = true then (if ((rdOf false told i) != bt294.1) = true then (some false) else (butlerlaw11_RecipeOrders.l2 K l ks tn want (orderOf l ks) told ((i + 1 : Nat) : Int))) else (if ((rdOf false told i) != false) = true then (some false) else (butlerlaw11_RecipeOrders.l2 K l ks tn want (orderOf l ks) told ((i + 1 : Nat) : Int)))) else (none)) else (none)) else (none))) (Fate_ev l i) ?_
      rw [fp]
      refine Ev.congr (fun K => ?_) next
      rw [if_pos (by omega), if_pos (by omega), if_pos (by omega)]
      have fc := fate_can (l := l) (k := i)
      by_cases hwn : Ask l ks i
      · rw [if_pos (s2.2 hwn), if_neg]
        simp only [bne_iff_ne, ne_eq, Decidable.not_not]
        rw [Bool.eq_iff_iff, s1, fc]
        exact ⟨fun h => h.2, fun h => ⟨hwn, h⟩⟩
      · rw [if_neg (fun h => hwn (s2.1 h)), if_neg]
        simp only [bne_iff_ne, ne_eq, Decidable.not_not]
        cases hx : rdOf false told i with
        | false => rfl
        | true => exact (hwn (s1.1 hx).1).elim
theorem orders_l0 : ∀ (d i : Nat) (told : List Bool), i + d = (orderOf l ks).length → BL l.length told (· ∈ (orderOf l ks).take i) → Ev (fun K => butlerlaw11_RecipeOrders.l0 K l ks tn t want (orderOf l ks) told i) true := by
  have _u := And.intro h3 (And.intro hw.len ht.len)
  have hv := (rgt_of hr).1.vld
  have few := hv.few
  have O := order_told hr ks
  have hsm : (orderOf l ks).length ≤ 1000 := by
    unfold orderOf
    rw [if_pos hr]
    have := (askAll_keeps hv ks).1.few
    omega
  intro d
  induction d with
  | zero =>
    intro i told hd htold
    rw [List.take_of_length_le (by omega)] at htold
    refine Ev.step (fun K => ?_) (orders_l2 hr h3 tn ht hw told htold l.length 0 (by omega))
    simp only [butlerlaw11_RecipeOrders.l0]; rw [if_neg (by omega)]; rfl
  | succ d ih =>
    intro i told hd htold
    have hi : i < (orderOf l ks).length := by omega
    have hgi : rd (orderOf l ks) i = (orderOf l ks)[i] := by simp [rd, hi]
    have hm : rd (orderOf l ks) i ∈ orderOf l ks := by rw [hgi]; exact List.getElem_mem _
    have ha := ((O.mem _).1 hm).1
    obtain ⟨m0, m1⟩ := ha.range hv
    have split_ : orderOf l ks = (orderOf l ks).take i ++ rd (orderOf l ks) i :: (orderOf l ks).drop (i + 1) := by rw [hgi]; simp
    have tk : (orderOf l ks).take (i + 1) = (orderOf l ks).take i ++ [rd (orderOf l ks) i] := by
      rw [List.take_add_one, List.getElem?_eq_getElem hi]; simp [hgi]
    have fresh : rd (orderOf l ks) i ∉ (orderOf l ks).take i := by
      have := O.nod
      rw [split_] at this
      rw [List.nodup_append] at this
      intro hx
      exact this.2.2 _ hx _ (by simp) rfl
    have nt : ¬ rdOf false told (rd (orderOf l ks) i) = true := fun h => fresh ((htold.say _ m0 m1).1 h)
    have wt : rdOf false want (rd (orderOf l ks) i) = true := (hw.say _ m0 m1).2 ha
    have lt := htold.len
    have lw := hw.len
    have tl := ht.len
    have tr := ht.row _ m0 m1
    have next := ih (i + 1) (told.set (rd (orderOf l ks) i).toNat true) (by omega) ⟨by simp [lt], fun x x0 x1 => by
      rw [rdOf_set m0 (by omega) x0, tk]
      simp only [List.mem_append, List.mem_singleton]
      by_cases e : x = rd (orderOf l ks) i
      · rw [if_pos e]; exact ⟨fun _ => .inr e, fun _ => rfl⟩
      · rw [if_neg e, htold.say x x0 x1]; exact ⟨.inl, fun h => h.elim id (fun h => (e h).elim)⟩⟩
    generalize hk : rd (orderOf l ks) i = k at *
    have l1 : ∀ (d m : Nat), m + d = l.length → Ev (fun K => butlerlaw11_RecipeOrders.l1 K l ks tn t want (orderOf l ks) told i k m) true := by
      intro d
      induction d with
      | zero =>
        intro m hd
        refine Ev.step (fun K => ?_) next
        simp only [butlerlaw11_RecipeOrders.l1]
        rw [if_neg (by omega), if_pos m0, if_pos (by omega), wrap_up (by omega) (by omega)]; simp
      | succ d ihm =>
        intro m hd
        refine Ev.step (fun K => ?_) (ihm (m + 1) (by omega))
        simp only [butlerlaw11_RecipeOrders.l1]
        rw [if_pos (by omega), if_pos m0, if_pos (by omega), if_pos (by omega), if_pos (by omega), wrap_up (by omega) (by omega)]
        by_cases hc : Rch l k m
        · have mem := O.ord _ _ _ split_ m hc
          rw [if_pos ((ht.say k m m0 m1 (by omega) (by omega)).2 hc), if_pos (by omega), if_pos ((htold.say m (by omega) (by omega)).2 mem)]; simp
        · rw [if_neg (fun h => hc ((ht.say k m m0 m1 (by omega) (by omega)).1 h))]; simp
    have j2 : Ev (fun K => butlerlaw11_RecipeOrders.j2 K l ks tn t want (orderOf l ks) told i k false) true := by
      refine Ev.step (fun K => ?_) (l1 l.length 0 (by omega))
      simp only [butlerlaw11_RecipeOrders.j2]; rfl
    refine Ev.step (fun K => ?_) j2
    simp only [butlerlaw11_RecipeOrders.l0]
    rw [if_pos (by omega), if_pos (by omega), hk, if_neg (by omega), if_neg (by omega), if_pos m0, if_pos (by omega), if_neg nt, if_pos (by omega), wt]
    rfl
end
theorem RecipeOrders_ev (l : List S43) (ks : List Int) (tn : Int) : Ev (fun k => butlerlaw11_RecipeOrders.f k l ks tn) true := by
  unfold butlerlaw11_RecipeOrders.f
  refine Ev.bind (f := fun k t273 => (butlerref11_Right.f k l).bind fun t274 => (if t273 = true then (if t274 = 0 then (butlerlaw11_RecipeOrders.j0 k l ks tn t273 (decide ((ks.length : Int) > 300))) else (butlerlaw11_RecipeOrders.j0 k l ks tn t273 true)) else (butlerlaw11_RecipeOrders.j0 k l ks tn t273 true))) awake_ev ?_
  simp only [if_true]
  refine Ev.bind (f := fun k t274 => (if t274 = 0 then (butlerlaw11_RecipeOrders.j0 k l ks tn true (decide ((ks.length : Int) > 300))) else (butlerlaw11_RecipeOrders.j0 k l ks tn true true))) (refRight_ev l) ?_
  have out : Ev (fun k => butlerlaw11_RecipeOrders.j0 k l ks tn true true) true := by
    refine Ev.step (f := fun _ => some true) (fun k => ?_) (Ev.now _)
    simp only [butlerlaw11_RecipeOrders.j0]; rfl
  by_cases hr : rightN l = 0
  · simp only [if_pos hr]
    by_cases h3 : (ks.length : Int) > 300
    · rw [decide_eq_true h3]; exact out
    · rw [decide_eq_false h3]
      obtain ⟨rg, h0⟩ := rgt_of hr
      have few := rg.vld.few
      obtain ⟨t, ht, et⟩ := table_ev rg.vld
      obtain ⟨want, hw, ew⟩ := asked_ev hr ks (by omega)
      refine Ev.step (f := fun k => (butlerlaw11_table.f k l).bind fun t275 => ((butlerlaw11_asked.f k l ks).bind fun t278 => (butlerlaw11_RecipeOrders.l0 k l ks tn t275 t278 (orderOf l ks) (List.replicate l.length false) 0))) (fun k => ?_) ?_
      · simp only [butlerlaw11_RecipeOrders.j0, recipe_Order.f, Option.bind_some]
        have p1 : (0 : Int) ≤ (l.length : Int) := by omega
        have p2 : l.length ≤ 281474976710656 := by omega
        rw [if_neg (by decide)]
        simp only [Int.toNat_natCast, if_pos p1, if_pos p2]
      · refine Ev.bind (f := fun k t275 => ((butlerlaw11_asked.f k l ks).bind fun t278 => (butlerlaw11_RecipeOrders.l0 k l ks tn t275 t278 (orderOf l ks) (List.replicate l.length false) 0))) et ?_
        refine Ev.bind (f := fun k t278 => (butlerlaw11_RecipeOrders.l0 k l ks tn t t278 (orderOf l ks) (List.replicate l.length false) 0)) ew ?_
        refine orders_l0 hr (by omega) tn ht hw (orderOf l ks).length 0 _ (by omega) ⟨by simp, fun k _ _ => ?_⟩
        constructor
        · intro h; simp [rdOf, List.getD_eq_getElem?_getD, List.getElem?_replicate] at h; split at h <;> simp at h
        · intro h; simp at h
  · simp only [if_neg hr]; exact out
end Go.Proofs.Ytgahkloigbhgdaa.PR
