/- copy of a row of structs; butlerlaw03.lent: what it answers. Conditions: not too long a list. -/
import Derived.Test.YtakhipedjccpkaaDoorHc
import Derived.Laws.CopyOwn
import Derived.Laws.MakeOwn
namespace Go.Proofs.YtakhipedjccpkaaDoor.PH
open Go.RowKit Go.Proofs.YtakhipedjccpkaaDoorW.PrintWords Go.Proofs.YtakhipedjccpkaaDoorW.PrintLast Go.Proofs.YtakhipedjccpkaaDoorW.PrintMore
set_option linter.unusedVariables false
set_option linter.unusedSimpArgs false

theorem run_copy_wide {P : Program} (w : World) (dT sT ty elem : TypeId) (g dLen dCap : Nat) (sp : Option Addr) (sLen sCap sz n : Nat) (cur : Array Value) (t : TypeId) (cs : List Value)
    (hu : P.underlying dT = some (.slice elem)) (hs : (P.info? elem).map (·.size) = some sz)
    (hg : w.heap[g]? = some (.cells cur t (0, 0))) (hn : Nat.min sLen dLen = n) (hc : cs.length = n * sz)
    (hsrc : 0 < cs.length → ∃ a, sp = some a ∧ ∀ j v, cs[j]? = some v → w.cell? (a.add j) = some v) (hfit : cs.length ≤ cur.size) (h1 : ∀ v ∈ cs, v.oneCell' = true) :
    (Builtin.copy_ #[dT, sT] ty #[.slice (some ⟨g, 0, none⟩) dLen dCap, .slice sp sLen sCap]).run P w =
      .ok (goInt n) (w.setRow g (cs ++ cur.toList.drop cs.length).toArray) := by
  cases hq : P.info? elem with
  | none => simp [hq] at hs
  | some i =>
    have hi : i.size = sz := by simpa [hq] using hs
    have hst := run_storeCells_at P g 0 t cs 0 cur w hg (by simpa using hfit) h1
    by_cases h0 : cs.length = 0
    · obtain rfl : cs = [] := List.eq_nil_of_length_eq_zero h0
      have hz : n * sz = 0 := by simpa using hc.symm
      have hl : ∀ (x : Addr), (loadCells x 0).run P w = .ok #[] w := fun x => by simpa using run_loadCells_list (P := P) w x [] (by simp)
      simp only [List.nil_append, List.length_nil, List.drop_zero, Array.toArray_toList]
      rw [setRow_self w g cur t (0, 0) hg]
      cases sp <;> simp [Builtin.copy_, run_underlying hu, Builtin.lenOf, Builtin.firstCells, sizeOf, typeInfo, hq, hi, hn, hz, storeCells, hl]
    · obtain ⟨a, rfl, hsrc'⟩ := hsrc (by omega)
      have hl := run_loadCells_list (P := P) w a cs hsrc'
      rw [hc] at hl
      simp [Builtin.copy_, run_underlying hu, Builtin.lenOf, Builtin.firstCells, sizeOf, typeInfo, hq, hi, hn, hl, hst]
theorem wpList_copy_wide {P : Program} {w : World} {ops : Array Oper} {rest : List Oper} {o : Oper} {a : Act} {Q : Exit → Act → World → Prop} (hgd : o.guard = none) (d s : Operand) (dT sT : TypeId)
    (ho : o.op = .call { callee := .builtin .copy, args := #[d, s], argTypes := #[dT, sT] }) (elem : TypeId) (hu : P.underlying dT = some (.slice elem)) (sz : Nat) (hsz : (P.info? elem).map (·.size) = some sz)
    (sp : Option Addr) (dLen dCap sLen sCap n : Nat) (g : Nat) (hd : a.eval d = .slice (some ⟨g, 0, none⟩) dLen dCap) (hs : a.eval s = .slice sp sLen sCap)
    (cur : Array Value) (t : TypeId) (hg : w.heap[g]? = some (.cells cur t (0, 0))) (cs : List Value) (hn : Nat.min sLen dLen = n) (hc : cs.length = n * sz)
    (hsrc : 0 < cs.length → ∃ ad, sp = some ad ∧ ∀ j v, cs[j]? = some v → w.cell? (ad.add j) = some v) (hfit : cs.length ≤ cur.size) (h1 : ∀ v ∈ cs, v.oneCell' = true) (B : Nat) (w0 : World) (hb : Below B w0 w) (hBg : B ≤ g)
    (h : ∀ w', Aside0 (w'.heap[g]? = some (.cells (cs ++ cur.toList.drop cs.length).toArray t (0, 0))) → Below B w0 w' → wpList P ops Q rest (a.put o.dst (goInt n)) w') :
    wpList P ops Q (o :: rest) a w := by
  refine wpList_plain hgd fun K hK => ?_
  have hrun := run_copy_wide (P := P) w dT sT o.type elem g dLen dCap sp sLen sCap sz n cur t cs hu hsz hg hn hc hsrc hfit h1
  unfold Oper.wp
  simp [execOp, ho, resolve, invoke, builtin, hd, hs, hrun, Result.andThen]
  exact hK _ _ (h _ ⟨setRow_heap w g _ _ t _ hg⟩ (below_setRow hb hBg _))

def cs33 (e : S33) : List Value := [.int .i64 e.f0, .int .i64 e.f1, .int .i64 e.f2, .int .i64 e.f3, .int .i64 e.f4, .int .i64 e.f5, .int .i64 e.f6.f0, .int .i64 e.f6.f1]
def flat33 (l : List S33) : List Value := l.flatMap cs33
theorem flat33_len : ∀ l : List S33, (flat33 l).length = l.length * 8
  | [] => rfl
  | e :: l => by have := flat33_len l; simp only [flat33, List.flatMap_cons, List.length_append, List.length_cons] at this ⊢; rw [this]; simp [cs33]; omega
theorem flat33_one (l : List S33) : ∀ v ∈ flat33 l, v.oneCell' = true := by
  intro v hv
  simp only [flat33, List.mem_flatMap] at hv
  obtain ⟨e, _, hv⟩ := hv
  simp [cs33] at hv
  rcases hv with rfl | rfl | rfl | rfl | rfl | rfl | rfl | rfl <;> rfl
theorem flat33_reps (w : World) (base : Nat) (ok : Nat → Prop) (l : List S33) : Reps (k33.M w base ok) 8 l (flat33 l) := by
  have gen : ∀ n, n ≤ l.length → Reps (k33.M w base ok) 8 (l.take n) (flat33 (l.take n)) := by
    intro n
    induction n with
    | zero => intro _; exact Reps.none _ _
    | succ n ih =>
      intro h
      rw [take33 l (by omega)]
      have : flat33 (l.take n ++ [rd_T33 l (n : Int)]) = flat33 (l.take n) ++ cs33 (rd_T33 l (n : Int)) := by simp [flat33]
      rw [this]
      exact (ih (by omega)).snoc (k33_mkM w base ok _) rfl
  have := gen l.length (Nat.le_refl _)
  rwa [List.take_length] at this
theorem flat33_at {l : List S33} {j : Nat} {v : Value} (h : (flat33 l)[j]? = some v) : j / 8 < l.length ∧ (cs33 (rd_T33 l ((j / 8 : Nat) : Int)))[j % 8]? = some v := by
  have gen : ∀ n, n ≤ l.length → ∀ v, (flat33 (l.take n))[j]? = some v → j / 8 < n ∧ (cs33 (rd_T33 l ((j / 8 : Nat) : Int)))[j % 8]? = some v := by
    intro n
    induction n with
    | zero => intro _ v hv; simp [flat33] at hv
    | succ n ih =>
      intro hn v hv
      rw [take33 l (by omega)] at hv
      have : flat33 (l.take n ++ [rd_T33 l (n : Int)]) = flat33 (l.take n) ++ cs33 (rd_T33 l (n : Int)) := by simp [flat33]
      rw [this, List.getElem?_append] at hv
      have hl : (flat33 (l.take n)).length = n * 8 := by rw [flat33_len]; simp; omega
      rw [hl] at hv
      split at hv
      · obtain ⟨a, b⟩ := ih (by omega) v hv
        exact ⟨by omega, b⟩
      · rename_i hj
        have h8 : j - n * 8 < 8 := by
          have := (List.getElem?_eq_some_iff.1 hv).1
          simpa [cs33] using this
        have e1 : j / 8 = n := by omega
        have e2 : j % 8 = j - n * 8 := by omega
        rw [e1, e2]
        exact ⟨by omega, hv⟩
  exact gen l.length (Nat.le_refl _) v (by rw [List.take_length]; exact h)
theorem flat33_src {w : World} {A : Option Addr} {l : List S33} (h : Kd.C k33 w A l.length l) (h0 : 0 < l.length) : ∃ ad, A = some ad ∧ ∀ j v, (flat33 l)[j]? = some v → w.cell? (ad.add j) = some v := by
  obtain ⟨ad, c, rfl, _, _, _⟩ := Kd.C_get h z33 0 (by omega) (by omega)
  refine ⟨ad, rfl, fun j v hv => ?_⟩
  obtain ⟨hj, hv⟩ := flat33_at hv
  obtain ⟨ad', c', e', hcl, hK, hcc⟩ := Kd.C_get h z33 ((j / 8 : Nat) : Int) (by omega) (by omega)
  cases e'
  rw [k33_open hK] at hcc
  have := hcc (j % 8) v hv
  rw [Int.toNat_natCast, show j / 8 * k33.sz + j % 8 = j from by show j / 8 * 8 + j % 8 = j; omega] at this
  exact this
/-- A row of the call's own whose first cells are a list's. -/
structure Pre33 (w : World) (g N : Nat) (l : List S33) : Prop where
  out : ∃ cur : Array Value, w.heap[g]? = some (.cells cur 33 (0, 0)) ∧ cur.size = N * 8 ∧ cur.toList.take (l.length * 8) = flat33 l
theorem Pre33.set {w : World} {g N : Nat} {l : List S33} (h : Pre33 w g N l) (j : Nat) (v : Value) (hj : l.length * 8 ≤ j) : Pre33 (w.setCell ⟨g, j, none⟩ v) g N l := by
  obtain ⟨cur, h1, h2, h3⟩ := h.out
  refine ⟨cur.setIfInBounds j v, ?_, by simpa using h2, ?_⟩
  · rw [setCell_eq_setRow w g j cur 33 (0, 0) v h1]
    exact setRow_heap w g cur _ 33 _ h1
  · rw [Array.toList_setIfInBounds, List.take_set_of_le (by omega), h3]
theorem Pre33.cell {w : World} {g N : Nat} {l : List S33} (h : Pre33 w g N l) (j : Nat) (hj : j < N * 8) : (∃ v, w.cell? ⟨g, j, none⟩ = some v) ∧ w.frozen? ⟨g, j, none⟩ = false := by
  obtain ⟨cur, h1, h2, h3⟩ := h.out
  refine ⟨⟨cur[j]'(by omega), ?_⟩, blk_frozen h1 j⟩
  rw [blk_cell h1, Array.getElem?_eq_getElem (by omega)]
theorem Pre33.row {w : World} {g N base : Nat} {l : List S33} (h : Pre33 w g N l) (hN : l.length ≤ N) (hm : N ≤ maxLen) (hg : base ≤ g) : Kd.R k33 33 w base (fun _ => True) (.slice (some ⟨g, 0, none⟩) l.length N) l := by
  obtain ⟨cur, h1, h2, h3⟩ := h.out
  exact ⟨fun _ _ => trivial, flat33 l, ⟨flat33_len l, .inr ⟨g, N, cur, rfl, hg, h1, hN, hm, h2, h3⟩⟩, flat33_reps _ _ _ _⟩
def butlerlaw03_lent.f (l0 : List (S33)) : Option ((List (S33))) := if l0.length ≤ 1000000000000 then some l0 else none
set_option maxHeartbeats 4000000 in
set_option maxRecDepth 100000 in
theorem butlerlaw03_lent.calls (A0 : Option Addr) (c0 : Nat) (l0 : List (S33)) (r : List (S33)) (w : World) (hr0 : Kd.C k33 w A0 l0.length l0) (hc0 : l0.length ≤ c0) (h : butlerlaw03_lent.f l0 = some r) :
    Calls Tryd.prog 9 #[.slice A0 l0.length c0] w fun e w' => ∃ v0_ : Value, e = .returned (v0_) ∧ Kd.R k33 33 w' w.heap.size (fun _ => True) v0_ r ∧ Below w.heap.size w w' := by
  unfold butlerlaw03_lent.f at h
  split at h
  case isFalse => cases h
  rename_i hlen
  obtain rfl := Option.some.inj h
  clear h
  have hmk : ∀ W : World, (Instr.makeSlice 22 (.int .i64 ((l0.length : Int) + 2)) (.int .i64 ((l0.length : Int) + 2))).run Tryd.prog W = .ok (.slice (some ⟨W.heap.size, 0, none⟩) (l0.length + 2) (l0.length + 2)) (W.alloc (.cells (madeCells #[.int .i64 0, .int .i64 0, .int .i64 0, .int .i64 0, .int .i64 0, .int .i64 0, .int .i64 0, .int .i64 0] ((l0.length + 2) * 8)) 33)) := by
    intro W
    obtain ⟨i0, hi, hzz⟩ := Option.map_eq_some_iff.1 info33
    simp only [Prod.mk.injEq] at hzz
    obtain ⟨hz0, hz1, hz2⟩ := hzz
    have := run_make (P := Tryd.prog) W 22 33 i0 _ Tryd.underlying22 hi hz0 .i64 .i64 ((l0.length : Int) + 2) ((l0.length : Int) + 2) (by omega) (by omega) (by rw [hz2]; omega) (by omega)
    rw [this, hz1]
    rfl
  have HBN := Aside0.mk (blk_new w (.cells (madeCells #[.int .i64 0, .int .i64 0, .int .i64 0, .int .i64 0, .int .i64 0, .int .i64 0, .int .i64 0, .int .i64 0] ((l0.length + 2) * 8)) 33))
  have HB1 : Aside0 (Below w.heap.size w (w.alloc (.cells (madeCells #[.int .i64 0, .int .i64 0, .int .i64 0, .int .i64 0, .int .i64 0, .int .i64 0, .int .i64 0, .int .i64 0] ((l0.length + 2) * 8)) 33))) := ⟨below_alloc (Below.refl _ _) _⟩
  have hsz33 : (Tryd.prog.info? 33).map (·.size) = some 8 := by kernel_rfl
  have HSRC : Aside0 (0 < (flat33 l0).length → ∃ ad, A0 = some ad ∧ ∀ j v, (flat33 l0)[j]? = some v → (w.alloc (.cells (madeCells #[.int .i64 0, .int .i64 0, .int .i64 0, .int .i64 0, .int .i64 0, .int .i64 0, .int .i64 0, .int .i64 0] ((l0.length + 2) * 8)) 33)).cell? (ad.add j) = some v) := ⟨fun h0 => by
    rw [flat33_len] at h0
    exact flat33_src (Kd.C_alloc hr0 _) (by omega)⟩
  clear hr0 hc0
  go_enter Tryd.func9, Tryd.ntmps9
  go_upto_region 3 with (first
    | ((with_reducible refine gate_builtin (b := .copy) (xs := #[.tmp 8, .tmp 9]) rfl ?_); refine wpList_copy_wide rfl (.tmp 8) (.tmp 9) 22 22 rfl 33 Tryd.underlying22 8 hsz33 A0 (l0.length + 2) (l0.length + 2) l0.length c0 l0.length w.heap.size rfl rfl _ 33 HBN.out (flat33 l0) ?cn (flat33_len l0) HSRC.out ?cf (flat33_one l0) w.heap.size w HB1.out (Nat.le_refl _) ?_; (case cn => show min l0.length (l0.length + 2) = l0.length; omega); (case cf => rw [flat33_len, size_madeCells]; omega); intro w2 HC2 hb2))
  have HB2 := Aside0.mk hb2
  have HP2 : Aside0 (Pre33 w2 w.heap.size (l0.length + 2) l0) := ⟨⟨⟨_, HC2.out, by simp [flat33_len, size_madeCells]; omega, by rw [List.toList_toArray, List.take_append_of_le_length (by rw [flat33_len]; omega), List.take_of_length_le (by rw [flat33_len]; omega)]⟩⟩⟩
  clear hb2 hmk HC2
  have h0 := (HP2.out.cell (l0.length * 8) (by omega))
  obtain ⟨⟨v0, c0⟩, d0⟩ := h0
  have h1 := (HP2.out.cell (l0.length * 8 + 1) (by omega))
  obtain ⟨⟨v1, c1⟩, d1⟩ := h1
  have h2 := (HP2.out.cell (l0.length * 8 + 2) (by omega))
  obtain ⟨⟨v2, c2⟩, d2⟩ := h2
  have h3 := (HP2.out.cell (l0.length * 8 + 3) (by omega))
  obtain ⟨⟨v3, c3⟩, d3⟩ := h3
  have h4 := (HP2.out.cell (l0.length * 8 + 4) (by omega))
  obtain ⟨⟨v4, c4⟩, d4⟩ := h4
  have h5 := (HP2.out.cell (l0.length * 8 + 5) (by omega))
  obtain ⟨⟨v5, c5⟩, d5⟩ := h5
  have h6 := (HP2.out.cell (l0.length * 8 + 6) (by omega))
  obtain ⟨⟨v6, c6⟩, d6⟩ := h6
  have h7 := (HP2.out.cell (l0.length * 8 + 7) (by omega))
  obtain ⟨⟨v7, c7⟩, d7⟩ := h7
  go_upto_region 4 with (fail)
  obtain ⟨w3, hw3⟩ : ∃ w3, w3 = ((((((((w2.setCell ⟨w.heap.size, l0.length * 8, none⟩ (.int .i64 0)).setCell ⟨w.heap.size, l0.length * 8 + 1, none⟩ (.int .i64 (-71))).setCell ⟨w.heap.size, l0.length * 8 + 2, none⟩ (.int .i64 0)).setCell ⟨w.heap.size, l0.length * 8 + 3, none⟩ (.int .i64 0)).setCell ⟨w.heap.size, l0.length * 8 + 4, none⟩ (.int .i64 0)).setCell ⟨w.heap.size, l0.length * 8 + 5, none⟩ (.int .i64 0)).setCell ⟨w.heap.size, l0.length * 8 + 6, none⟩ (.int .i64 0)).setCell ⟨w.heap.size, l0.length * 8 + 7, none⟩ (.int .i64 0)) := ⟨_, rfl⟩
  have HP3 : Aside0 (Pre33 w3 w.heap.size (l0.length + 2) l0) := ⟨by rw [hw3]; exact ((((((((HP2.out.set _ _ (by omega)).set _ _ (by omega)).set _ _ (by omega)).set _ _ (by omega)).set _ _ (by omega)).set _ _ (by omega)).set _ _ (by omega)).set _ _ (by omega))⟩
  have HB3 : Aside0 (Below w.heap.size w w3) := ⟨by rw [hw3]; exact ((((((((HB2.out.setCell (Nat.le_refl _) _).setCell (Nat.le_refl _) _).setCell (Nat.le_refl _) _).setCell (Nat.le_refl _) _).setCell (Nat.le_refl _) _).setCell (Nat.le_refl _) _).setCell (Nat.le_refl _) _).setCell (Nat.le_refl _) _)⟩
  rw [← hw3]
  clear hw3 c0 c1 c2 c3 c4 c5 c6 c7 d0 d1 d2 d3 d4 d5 d6 d7
  have h0 := HP3.out.cell ((l0.length + 1) * 8) (by omega)
  obtain ⟨⟨v0, c0⟩, d0⟩ := h0
  have h1 := HP3.out.cell ((l0.length + 1) * 8 + 1) (by omega)
  obtain ⟨⟨v1, c1⟩, d1⟩ := h1
  have h2 := HP3.out.cell ((l0.length + 1) * 8 + 2) (by omega)
  obtain ⟨⟨v2, c2⟩, d2⟩ := h2
  have h3 := HP3.out.cell ((l0.length + 1) * 8 + 3) (by omega)
  obtain ⟨⟨v3, c3⟩, d3⟩ := h3
  have h4 := HP3.out.cell ((l0.length + 1) * 8 + 4) (by omega)
  obtain ⟨⟨v4, c4⟩, d4⟩ := h4
  have h5 := HP3.out.cell ((l0.length + 1) * 8 + 5) (by omega)
  obtain ⟨⟨v5, c5⟩, d5⟩ := h5
  have h6 := HP3.out.cell ((l0.length + 1) * 8 + 6) (by omega)
  obtain ⟨⟨v6, c6⟩, d6⟩ := h6
  have h7 := HP3.out.cell ((l0.length + 1) * 8 + 7) (by omega)
  obtain ⟨⟨v7, c7⟩, d7⟩ := h7
  go_upto_region 5 with (fail)
  obtain ⟨w4, hw4⟩ : ∃ w4, w4 = ((((((((w3.setCell ⟨w.heap.size, (l0.length + 1) * 8, none⟩ (.int .i64 0)).setCell ⟨w.heap.size, (l0.length + 1) * 8 + 1, none⟩ (.int .i64 (-72))).setCell ⟨w.heap.size, (l0.length + 1) * 8 + 2, none⟩ (.int .i64 0)).setCell ⟨w.heap.size, (l0.length + 1) * 8 + 3, none⟩ (.int .i64 0)).setCell ⟨w.heap.size, (l0.length + 1) * 8 + 4, none⟩ (.int .i64 0)).setCell ⟨w.heap.size, (l0.length + 1) * 8 + 5, none⟩ (.int .i64 0)).setCell ⟨w.heap.size, (l0.length + 1) * 8 + 6, none⟩ (.int .i64 0)).setCell ⟨w.heap.size, (l0.length + 1) * 8 + 7, none⟩ (.int .i64 0)) := ⟨_, rfl⟩
  have HP4 : Aside0 (Pre33 w4 w.heap.size (l0.length + 2) l0) := ⟨by rw [hw4]; exact ((((((((HP3.out.set _ _ (by omega)).set _ _ (by omega)).set _ _ (by omega)).set _ _ (by omega)).set _ _ (by omega)).set _ _ (by omega)).set _ _ (by omega)).set _ _ (by omega))⟩
  have HB4 : Aside0 (Below w.heap.size w w4) := ⟨by rw [hw4]; exact ((((((((HB3.out.setCell (Nat.le_refl _) _).setCell (Nat.le_refl _) _).setCell (Nat.le_refl _) _).setCell (Nat.le_refl _) _).setCell (Nat.le_refl _) _).setCell (Nat.le_refl _) _).setCell (Nat.le_refl _) _).setCell (Nat.le_refl _) _)⟩
  rw [← hw4]
  clear hw4 c0 c1 c2 c3 c4 c5 c6 c7 d0 d1 d2 d3 d4 d5 d6 d7
  go_wp2
  go_ret
  exact ⟨_, rfl, HP4.out.row (by omega) (by unfold maxLen; omega) (Nat.le_refl _), HB4.out⟩
end Go.Proofs.YtakhipedjccpkaaDoor.PH
