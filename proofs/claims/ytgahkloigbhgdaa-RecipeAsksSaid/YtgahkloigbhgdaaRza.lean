/- What recipe.Order tells, in plain words: the keys that are asked for and can be built, each once, behind all that they reach. Conditions: the recipes are right. -/
import Derived.Test.YtgahkloigbhgdaaRq
import Derived.Test.YtgahkloigbhgdaaRz
namespace Go.Proofs.Ytgahkloigbhgdaa.PR
open Go.RowKit Go.Proofs.YtgahkloigbhgdaaW.PrintWords Go.Proofs.YtgahkloigbhgdaaW.PrintLast Go.Proofs.YtgahkloigbhgdaaW.PrintMore
set_option linter.unusedVariables false
set_option linter.unusedSimpArgs false

/-- The keys that are asked for: some, and their needs up to the first that can't be built. -/
inductive Ask (l : List S43) (ks : List Int) : Int → Prop
  | key {k : Int} : k ∈ ks → 0 ≤ k → k < (l.length : Int) → Ask l ks k
  | need {k m : Int} {pre post : List Int} : Ask l ks k → nds l k = pre ++ m :: post → (∀ x ∈ pre, Can l x) → Ask l ks m
theorem Ask.range {l : List S43} (hv : Vld l) {ks : List Int} {k : Int} (h : Ask l ks k) : 0 ≤ k ∧ k < (l.length : Int) := by
  induction h with
  | key _ a b => exact ⟨a, b⟩
  | need _ e _ ih => exact hv.mem ih.1 ih.2 (by rw [e]; simp)
theorem Ask.mono {l : List S43} {ks ks' : List Int} (hs : ∀ k ∈ ks, k ∈ ks') {k : Int} (h : Ask l ks k) : Ask l ks' k := by
  induction h with
  | key a b c => exact .key (hs _ a) b c
  | need _ e c ih => exact .need ih e c

/-- The asking under way: P: the keys that are being asked for; A: those that may be. -/
structure DI (l : List S43) (A P : Int → Prop) (s : St) : Prop where
  len : s.1.length = l.length
  nod : s.2.Nodup
  rng : ∀ k ∈ s.2, 0 ≤ k ∧ k < (l.length : Int) ∧ rdOf false s.1 k = true ∧ Can l k
  told : ∀ k, 0 ≤ k → k < (l.length : Int) → rdOf false s.1 k = true → Can l k → ¬ P k → k ∈ s.2
  prog : ∀ k, P k → k ∉ s.2
  ord : ∀ pre k post, s.2 = pre ++ k :: post → ∀ m, Rch l k m → m ∈ pre
  done : ∀ k, 0 ≤ k → k < (l.length : Int) → rdOf false s.1 k = true → ¬ P k → ∀ pre m post, nds l k = pre ++ m :: post → (∀ x ∈ pre, Can l x) → rdOf false s.1 m = true
  sub : ∀ k, 0 ≤ k → k < (l.length : Int) → rdOf false s.1 k = true → A k

structure DStep (l : List S43) (A P : Int → Prop) (s s' : St) : Prop where
  inv : DI l A P s'
  more : ∀ m, 0 ≤ m → rdOf false s.1 m = true → rdOf false s'.1 m = true
  ext : ∃ e, s'.2 = s.2 ++ e
  less : unm s'.1 ≤ unm s.1

theorem DStep.trans {l : List S43} {A P : Int → Prop} {s s' s'' : St} (h : DStep l A P s s') (h' : DStep l A P s' s'') : DStep l A P s s'' := by
  obtain ⟨e, he⟩ := h.ext
  obtain ⟨e', he'⟩ := h'.ext
  exact ⟨h'.inv, fun m m0 hm => h'.more m m0 (h.more m m0 hm), ⟨e ++ e', by rw [he', he, List.append_assoc]⟩, Nat.le_trans h'.less h.less⟩

theorem dfs {l : List S43} (hv : Vld l) {A : Int → Prop} (hA : ∀ k m pre post, A k → nds l k = pre ++ m :: post → (∀ x ∈ pre, Can l x) → A m) :
    ∀ (N : Nat) (k : Int) (s : St) (P : Int → Prop), 0 ≤ k → k < (l.length : Int) → A k → (∀ p, P p → Rch l p k) → unm s.1 < N → DI l A P s → DStep l A P s (askF l (cn l) N k s) ∧ rdOf false (askF l (cn l) N k s).1 k = true := by
  intro N
  induction N with
  | zero => intro k s P _ _ _ _ h; omega
  | succ N ih =>
    intro k s P k0 k1 ak hp hN h
    simp only [askF]
    by_cases hd : rdOf false s.1 k = true
    · rw [if_pos hd]
      exact ⟨⟨h, fun m _ hm => hm, ⟨[], by simp⟩, Nat.le_refl _⟩, hd⟩
    rw [if_neg hd]
    have hd' : rdOf false s.1 k = false := by simpa using hd
    have hu : unm (s.1.set k.toNat true) + 1 = unm s.1 := unm_set (by rw [h.len]; omega) (by have := hd'; unfold rdOf at this; exact this)
    have hrd : ∀ j, 0 ≤ j → rdOf false (s.1.set k.toNat true) j = if j = k then true else rdOf false s.1 j := fun j hj => rdOf_set k0 (by rw [h.len]; exact k1) hj
    have knot : k ∉ s.2 := fun hk => hd (h.rng k hk).2.2.1
    -- the key is begun
    have h1 : DI l A (fun m => P m ∨ m = k) (s.1.set k.toNat true, s.2) := by
      refine ⟨by simp [h.len], h.nod, fun m hm => ?_, fun m m0 m1 hm hc hn => ?_, fun m hm => ?_, h.ord, fun m m0 m1 hm hn pre x post e hx => ?_, fun m m0 m1 hm => ?_⟩
      · obtain ⟨a, b, c, d⟩ := h.rng m hm
        refine ⟨a, b, ?_, d⟩
        show rdOf false (s.1.set k.toNat true) m = true
        rw [hrd m a, c]; split <;> rfl
      · replace hm : rdOf false (s.1.set k.toNat true) m = true := hm
        rw [hrd m m0, if_neg (fun e => hn (.inr e))] at hm
        exact h.told m m0 m1 hm hc (fun p => hn (.inl p))
      · rcases hm with hm | rfl
        · exact h.prog m hm
        · exact knot
      · replace hm : rdOf false (s.1.set k.toNat true) m = true := hm
        rw [hrd m m0, if_neg (fun e => hn (.inr e))] at hm
        have := h.done m m0 m1 hm (fun p => hn (.inl p)) pre x post e hx
        obtain ⟨x0, x1⟩ := hv.mem m0 m1 (show x ∈ nds l m by rw [e]; simp)
        show rdOf false (s.1.set k.toNat true) x = true
        rw [hrd x x0, this]; split <;> rfl
      · replace hm : rdOf false (s.1.set k.toNat true) m = true := hm
        rw [hrd m m0] at hm
        split at hm
        · rename_i e; rw [e]; exact ak
        · exact h.sub m m0 m1 hm
    -- its needs are asked for
    have gol : ∀ (ms pre : List Int) (t : St), nds l k = pre ++ ms → (∀ x ∈ pre, Can l x ∧ rdOf false t.1 x = true) → DI l A (fun m => P m ∨ m = k) t → unm t.1 < N →
        DStep l A (fun m => P m ∨ m = k) t (goL (askF l (cn l) N) (cn l) ms t) ∧ (∀ pre' m post, nds l k = pre' ++ m :: post → (∀ x ∈ pre', Can l x) → rdOf false (goL (askF l (cn l) N) (cn l) ms t).1 m = true) := by
      intro ms
      induction ms with
      | nil =>
        intro pre t e hpre ht hN
        refine ⟨⟨ht, fun m _ hm => hm, ⟨[], by simp [goL]⟩, Nat.le_refl _⟩, fun pre' m post e' _ => ?_⟩
        have : m ∈ pre := by
          have : m ∈ nds l k := by rw [e']; simp
          rw [e] at this; simpa using this
        exact (hpre m this).2
      | cons m ms ihm =>
        intro pre t e hpre ht hN
        have hm : m ∈ nds l k := by rw [e]; simp
        obtain ⟨m0, m1⟩ := hv.mem k0 k1 hm
        have am : A m := hA k m pre ms ak e (fun x hx => (hpre x hx).1)
        obtain ⟨st, bm⟩ := ih m t (fun m => P m ∨ m = k) m0 m1 am (fun p hpp => by
          rcases hpp with hpp | rfl
          · exact (hp p hpp).trans (.one hm)
          · exact .one hm) hN ht
        simp only [goL]
        by_cases hc : cn l m = true
        · rw [if_pos hc]
          obtain ⟨st', rest⟩ := ihm (pre ++ [m]) (askF l (cn l) N m t) (by rw [e]; simp) (fun x hx => by
            simp only [List.mem_append, List.mem_singleton] at hx
            rcases hx with hx | rfl
            · obtain ⟨x0, x1⟩ := hv.mem k0 k1 (show x ∈ nds l k by rw [e]; simp [hx])
              exact ⟨(hpre x hx).1, st.more x x0 (hpre x hx).2⟩
            · exact ⟨fate_can.1 hc, bm⟩) st.inv (Nat.lt_of_le_of_lt st.less hN)
          exact ⟨st.trans st', rest⟩
        · rw [if_neg hc]
          refine ⟨st, fun pre' m' post e' hx => ?_⟩
          rw [e] at e'
          rcases List.append_eq_append_iff.1 e' with ⟨a, ha, hb⟩ | ⟨a, ha, hb⟩
          · -- pre' = pre ++ a, m :: ms = a ++ m' :: post
            cases a with
            | nil => simp only [List.nil_append, List.cons.injEq] at hb; rw [← hb.1]; exact bm
            | cons y a =>
              simp only [List.cons_append, List.cons.injEq] at hb
              exact (hc (fate_can.2 (hx m (by rw [ha, hb.1]; simp)))).elim
          · -- pre = pre' ++ a, m' :: post = a ++ m :: ms
            cases a with
            | nil => simp only [List.nil_append, List.cons.injEq] at hb; rw [hb.1]; exact bm
            | cons y a =>
              simp only [List.cons_append, List.cons.injEq] at hb
              have : m' ∈ pre := by rw [ha, hb.1]; simp
              obtain ⟨x0, x1⟩ := hv.mem k0 k1 (show m' ∈ nds l k by rw [e]; simp [this])
              exact st.more m' x0 (hpre m' this).2
    obtain ⟨st, all⟩ := gol (nds l k) [] (s.1.set k.toNat true, s.2) rfl (fun x hx => by cases hx) h1 (by simp only; omega)
    generalize goL (askF l (cn l) N) (cn l) (nds l k) (s.1.set k.toNat true, s.2) = s' at *
    have bk : rdOf false s'.1 k = true := st.more k k0 (by show rdOf false (s.1.set k.toNat true) k = true; rw [hrd k k0, if_pos rfl])
    have hmore : ∀ m, 0 ≤ m → rdOf false s.1 m = true → rdOf false s'.1 m = true := fun m m0 hm => st.more m m0 (by
      show rdOf false (s.1.set k.toNat true) m = true
      rw [hrd m m0, hm]; split <;> rfl)
    have hless : unm s'.1 ≤ unm s.1 := by have := st.less; simp only at this; omega
    obtain ⟨e, he⟩ := st.ext
    have I := st.inv
    by_cases hc : cn l k = true
    · rw [if_pos hc]
      have ck : Can l k := fate_can.1 hc
      have pk : ¬ P k := fun hpk => ring_not (hp k hpk) ck
      have knot' : k ∉ s'.2 := I.prog k (.inr rfl)
      have needs : ∀ m ∈ nds l k, m ∈ s'.2 := by
        intro m hm
        obtain ⟨m0, m1⟩ := hv.mem k0 k1 hm
        obtain ⟨pre, post, epp⟩ := List.append_of_mem hm
        have cm : Can l m := can_reach ck (.one hm)
        have bm := all pre m post epp (fun x hx => can_reach ck (.one (by rw [epp]; simp [hx])))
        refine I.told m m0 m1 bm cm ?_
        rintro (hpm | rfl)
        · exact ring_not ((hp m hpm).trans (.one hm)) cm
        · exact ring_not (.one hm) cm
      have reach : ∀ m, Rch l k m → m ∈ s'.2 := by
        intro m hm
        cases hm with
        | one h => exact needs m h
        | @more _ m' _ h h' =>
          obtain ⟨pre, post, epp⟩ := List.append_of_mem (needs m' h)
          have := I.ord pre m' post epp m h'
          rw [epp]; simp [this]
      refine ⟨⟨⟨I.len, ?_, fun m hm => ?_, fun m m0 m1 hm hcm hn => ?_, fun m hm => ?_, fun pre m post epp x hx => ?_, fun m m0 m1 hm hn pre x post epp hx => ?_, I.sub⟩, hmore, ⟨e ++ [k], by rw [he, List.append_assoc]⟩, hless⟩, bk⟩
      · exact List.nodup_append.2 ⟨I.nod, by simp, fun a ha b hb => by
          simp only [List.mem_singleton] at hb
          subst hb
          exact fun e => knot' (e ▸ ha)⟩
      · simp only [List.mem_append, List.mem_singleton] at hm
        rcases hm with hm | rfl
        · exact I.rng m hm
        · exact ⟨k0, k1, bk, ck⟩
      · simp only [List.mem_append, List.mem_singleton]
        by_cases ek : m = k
        · exact .inr ek
        · exact .inl (I.told m m0 m1 hm hcm (fun x => x.elim hn ek))
      · simp only [List.mem_append, List.mem_singleton, not_or]
        exact ⟨I.prog m (.inl hm), fun ek => pk (ek ▸ hm)⟩
      · rcases List.append_eq_append_iff.1 epp with ⟨a, ha, hb⟩ | ⟨a, ha, hb⟩
        · cases a with
          | nil =>
            simp only [List.nil_append, List.cons.injEq] at hb
            obtain ⟨rfl, _⟩ := hb
            simp only [List.append_nil] at ha
            rw [ha]; exact reach x hx
          | cons y a => simp at hb
        · cases a with
          | nil =>
            simp only [List.nil_append, List.cons.injEq] at hb
            obtain ⟨rfl, _⟩ := hb
            simp only [List.append_nil] at ha
            rw [← ha]; exact reach x hx
          | cons y a =>
            simp only [List.cons_append, List.cons.injEq] at hb
            obtain ⟨rfl, _⟩ := hb
            exact I.ord pre m a ha x hx
      · by_cases ek : m = k
        · subst ek; exact all pre x post epp hx
        · exact I.done m m0 m1 hm (fun y => y.elim hn ek) pre x post epp hx
    · rw [if_neg hc]
      have ck : ¬ Can l k := fun h => hc (fate_can.2 h)
      refine ⟨⟨⟨I.len, I.nod, I.rng, fun m m0 m1 hm hcm hn => ?_, fun m hm => I.prog m (.inl hm), I.ord, fun m m0 m1 hm hn pre x post epp hx => ?_, I.sub⟩, hmore, ⟨e, he⟩, hless⟩, bk⟩
      · refine I.told m m0 m1 hm hcm (fun y => y.elim hn (fun ek => ck (ek ▸ hcm)))
      · by_cases ek : m = k
        · subst ek; exact all pre x post epp hx
        · exact I.done m m0 m1 hm (fun y => y.elim hn ek) pre x post epp hx
/-- What Order tells. -/
structure Told (l : List S43) (ks O : List Int) : Prop where
  nod : O.Nodup
  mem : ∀ k, k ∈ O ↔ Ask l ks k ∧ Can l k
  ord : ∀ pre k post, O = pre ++ k :: post → ∀ m, Rch l k m → m ∈ pre
theorem order_told {l : List S43} (hr : rightN l = 0) (ks : List Int) : Told l ks (orderOf l ks) := by
  have hv := (rgt_of hr).1.vld
  have gen : ∀ (todo had : List Int) (s : St), (∀ k ∈ todo, k ∈ ks) → DI l (Ask l ks) (fun _ => False) s → (∀ k ∈ had, 0 ≤ k → k < (l.length : Int) → rdOf false s.1 k = true) →
      ∃ s', s' = todo.foldl (fun s k => if 0 ≤ k ∧ k < (l.length : Int) then askF l (cn l) (l.length + 1) k s else s) s ∧ DI l (Ask l ks) (fun _ => False) s' ∧ ∀ k ∈ had ++ todo, 0 ≤ k → k < (l.length : Int) → rdOf false s'.1 k = true := by
    intro todo
    induction todo with
    | nil => intro had s _ h hh; exact ⟨s, rfl, h, by simpa using hh⟩
    | cons k todo ih =>
      intro had s hin h hh
      simp only [List.foldl_cons]
      by_cases hk : 0 ≤ k ∧ k < (l.length : Int)
      · rw [if_pos hk]
        obtain ⟨st, bk⟩ := dfs hv (fun k m pre post a e c => Ask.need a e c) (l.length + 1) k s (fun _ => False) hk.1 hk.2 (.key (hin k (by simp)) hk.1 hk.2) (fun p hp => hp.elim) (by have := unm_le s.1; have := h.len; omega) h
        obtain ⟨s', e, a, b⟩ := ih (had ++ [k]) _ (fun x hx => hin x (by simp [hx])) st.inv (fun x hx x0 x1 => by
          simp only [List.mem_append, List.mem_singleton] at hx
          rcases hx with hx | rfl
          · exact st.more x x0 (hh x hx x0 x1)
          · exact bk)
        exact ⟨s', e, a, by simpa using b⟩
      · rw [if_neg hk]
        obtain ⟨s', e, a, b⟩ := ih (had ++ [k]) s (fun x hx => hin x (by simp [hx])) h (fun x hx x0 x1 => by
          simp only [List.mem_append, List.mem_singleton] at hx
          rcases hx with hx | rfl
          · exact hh x hx x0 x1
          · exact (hk ⟨x0, x1⟩).elim)
        exact ⟨s', e, a, by simpa using b⟩
  have no : ∀ k : Int, rdOf false (List.replicate l.length false) k = true → False := fun k h => by
    simp [rdOf, List.getD_eq_getElem?_getD, List.getElem?_replicate] at h; split at h <;> simp at h
  obtain ⟨s, e, I, al⟩ := gen ks [] (List.replicate l.length false, []) (fun _ h => h) ⟨by simp, by simp, (fun k hk => by cases hk), fun k _ _ h => (no k h).elim, fun k h => h.elim, (fun pre k post h => by simp at h), fun k _ _ h => (no k h).elim, fun k _ _ h => (no k h).elim⟩ (fun k hk => by cases hk)
  have eo : orderOf l ks = s.2 := by unfold orderOf askAll; rw [if_pos hr, e]
  rw [eo]
  have begun : ∀ k, Ask l ks k → rdOf false s.1 k = true := by
    intro k hk
    induction hk with
    | key a b c => exact al _ (by simpa using a) b c
    | @need k m pre post a e c ih =>
      obtain ⟨k0, k1⟩ := a.range hv
      exact I.done k k0 k1 ih id pre m post e c
  refine ⟨I.nod, fun k => ⟨fun hk => ?_, fun ⟨a, c⟩ => ?_⟩, I.ord⟩
  · obtain ⟨a, b, c, d⟩ := I.rng k hk
    exact ⟨I.sub k a b c, d⟩
  · obtain ⟨k0, k1⟩ := a.range hv
    exact I.told k k0 k1 (begun k a) c id
end Go.Proofs.Ytgahkloigbhgdaa.PR
