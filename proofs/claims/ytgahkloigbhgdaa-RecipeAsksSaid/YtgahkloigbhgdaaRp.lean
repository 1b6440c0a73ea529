/- The closure in recipe.Order: what its call comes to. Conditions: the recipes are right. -/
import Derived.Test.YtgahkloigbhgdaaRo
namespace Go.Proofs.Ytgahkloigbhgdaa.PR
open Go.RowKit Go.Proofs.YtgahkloigbhgdaaW.PrintWords Go.Proofs.YtgahkloigbhgdaaW.PrintLast Go.Proofs.YtgahkloigbhgdaaW.PrintMore
set_option linter.unusedVariables false
set_option linter.unusedSimpArgs false

noncomputable def cn (l : List S43) : Int → Bool := fun m => (fateOf l m).f0
theorem askF_old {l : List S43} {c : Int → Bool} {N : Nat} {k : Int} {s : St} (hd : rdOf false s.1 k = true) : askF l c (N + 1) k s = s := by simp only [askF]; rw [if_pos hd]
theorem askF_yes {l : List S43} {c : Int → Bool} {N : Nat} {k : Int} {s s' : St} (hd : rdOf false s.1 k = false) (hc : c k = true) (h : s' = goL (askF l c N) c (nds l k) (s.1.set k.toNat true, s.2)) : askF l c (N + 1) k s = (s'.1, s'.2 ++ [k]) := by
  subst h; simp only [askF]; rw [if_neg (by rw [hd]; decide), if_pos hc]
theorem askF_no {l : List S43} {c : Int → Bool} {N : Nat} {k : Int} {s : St} (hd : rdOf false s.1 k = false) (hc : c k = false) : askF l c (N + 1) k s = goL (askF l c N) c (nds l k) (s.1.set k.toNat true, s.2) := by
  simp only [askF]; rw [if_neg (by rw [hd]; decide), if_neg (by rw [hc]; decide)]
structure AskPost (l : List S43) (w0 : World) (A : Option Addr) (c bb bl ba bf bv gd gf capd capf : Nat) (s' : St) (e : Ending) (w' : World) : Prop where
  out : ∃ v', e = .returned (.tuple #[]) ∧ OW l w0 A c bb bl ba bf bv gd gf capd capf w' s' v'
theorem rd_fates {l : List S43} {k : Int} (h0 : 0 ≤ k) (h1 : k < (l.length : Int)) : rd_T51 (fatesOf l) k = fateOf l k := by
  have : k.toNat < l.length := by omega
  simp [rd_T51, fatesOf, List.getD_eq_getElem?_getD, List.getElem?_map, List.getElem?_range this]
  rw [show max k 0 = k by omega]

set_option maxHeartbeats 8000000 in
set_option maxRecDepth 100000 in
theorem ask_calls {l : List S43} {w0 : World} {A : Option Addr} {c bb bl ba bf bv gd gf capd capf : Nat} (hr : Rgt l) (hc : l.length ≤ c) : ∀ (N : Nat) (k : Int) (s : St) (v : Value) (p : Nat) (w : World),
    unm s.1 < N → 0 ≤ k → k < (l.length : Int) → AI l.length p s → OW l w0 A c bb bl ba bf bv gd gf capd capf w s v →
    Calls Try.prog 29 #[.int .i64 k, ptr bb, ptr bl, ptr ba, ptr bf, ptr bv] w fun e w' => AskPost l w0 A c bb bl ba bf bv gd gf capd capf (askF l (cn l) N k s) e w' := by
  intro N
  induction N with
  | zero => intro k s v p w h; omega
  | succ N ih =>
    intro k s v p w hN k0 k1 hI hW
    have IH := Aside0.mk ih
    clear ih
    have HI := Aside0.mk hI
    have HW := Aside0.mk hW
    clear hI hW
    obtain ⟨b1, b1'⟩ := cell_of HW.out.hb
    obtain ⟨d2, d2'⟩ := Kd.R_celln (d := false) HW.out.rB k k0 k1
    have bb0 := blk_lt HW.out.hb
    have gd0 := Kd.R_lt HW.out.rB gd rfl
    by_cases hd : rdOf false s.1 k = true
    · have HS : Aside0 (askF l (cn l) (N + 1) k s = s) := ⟨askF_old hd⟩
      rw [hd] at d2
      go_enter Try.func29, Try.ntmps29
      go_wp2
      go_end0
      exact ⟨v, rfl, by rw [HS.out]; exact HW.out⟩
    · simp only [Bool.not_eq_true] at hd
      rw [hd] at d2
      obtain ⟨ad, A1, c1, eA, g0, _, _, _, _, gl, gC⟩ := at_T43 HW.out.rL k k0 k1
      have GC : Aside0 ((Kd.int .i64).C w0 A1 (nds l k).length (nds l k)) := Aside0.mk gC
      subst eA
      clear gC gl
      obtain ⟨w1, hw1⟩ : ∃ w1, w1 = w.setCell ⟨gd, k.toNat, none⟩ (.bool true) := ⟨_, rfl⟩
      have HW1 := Aside0.mk (HW.out.begin k hw1)
      obtain ⟨l1, l1'⟩ := cell_of HW1.out.hl
      have g1 := pw_cell_below HW1.out.low g0
      rw [hw1] at l1 l1' g1
      go_enter Try.func29, Try.ntmps29
      go_wp2
      rw [← hw1]
      have hu : unm (s.1.set k.toNat true) + 1 = unm s.1 := unm_set (by rw [HI.out.len]; omega) (by have := hd; unfold rdOf at this; exact this)
      have HI1 : Aside0 (AI l.length (p + 1) (s.1.set k.toNat true, s.2)) := ⟨⟨by simp [HI.out.len], by have := HI.out.few; simp; omega⟩⟩
      have HU := Aside0.mk (show unm (s.1.set k.toNat true) < N by omega)
      have HD := Aside0.mk hd
      clear hw1 l1 l1' g1 b1 b1' d2 d2' hu hd bb0 gd0
      go_loopg [22] ((nds l k).length + 1) (fun gk v22 wr => ∃ (i : Int) (s1 : St) (v1 : Value), v22 = .int .i64 i ∧ 0 ≤ i ∧ i ≤ ((nds l k).length : Int) ∧ Aside0 ((nds l k).length - i.toNat < gk) ∧ Aside0 (AI l.length (p + 1) s1) ∧ Aside0 (unm s1.1 < N) ∧
        Aside0 (∀ x ∈ (nds l k).take i.toNat, cn l x = true) ∧ Aside0 (s1 = goL (askF l (cn l) N) (cn l) ((nds l k).take i.toNat) (s.1.set k.toNat true, s.2)) ∧ Aside0 (OW l w0 (some ad) c bb bl ba bf bv gd gf capd capf wr s1 v1))
      case atStart => exact ⟨0, _, v, rfl, by omega, by omega, ⟨by omega⟩, HI1, HU, ⟨by simp⟩, ⟨by simp [goL]⟩, HW1⟩
      case round =>
        clear HW1
        obtain ⟨i, s1, v1, rfl, i0, i1, HG, HI2, HU2, HC2, HE2, HW2⟩ := hrel
        have hn20 : (nds l k).length ≤ 20 := hr.vld.each k k0 k1
        by_cases hlt : i < ((nds l k).length : Int)
        · obtain ⟨m0, m1⟩ := hr.vld.keys k k0 k1 i i0 hlt
          obtain ⟨ad2, e2, g2⟩ := Kd.at_int (Kd.C_below GC.out HW2.out.low) i i0 hlt
          subst e2
          obtain ⟨x, hx⟩ : ∃ x, x = rd (nds l k) i := ⟨_, rfl⟩
          rw [← hx] at m0 m1
          have y5 : wr.cell? (ad2.add i.toNat) = some (.int .i64 x) := by rw [hx]; exact g2
          have HX := Aside0.mk hx
          clear g2 hx
          obtain ⟨z1, z1'⟩ := cell_of HW2.out.ha
          have hlt' : decide (i < ((rd_T43 l k).f0.length : Int)) = true := decide_eq_true hlt
          go_wp2_with fail
          refine (IH.out x s1 v1 (p + 1) wr HU2.out m0 m1 HI2.out HW2.out).mono ?_
          rintro e w2 ⟨⟨v2, rfl, hW3⟩⟩
          have HW3 := Aside0.mk hW3
          obtain ⟨hk1, hk2⟩ := askF_keeps (c := cn l) hr.vld N x s1 (p + 1) m0 m1 HI2.out
          have HI3 := Aside0.mk hk1
          have HU3 : Aside0 (unm (askF l (cn l) N x s1).1 < N) := ⟨Nat.lt_of_le_of_lt hk2 HU2.out⟩
          clear hW3 hk1 hk2 y5 z1 z1'
          obtain ⟨f1, f1'⟩ := cell_of HW3.out.hf
          obtain ⟨f2, _⟩ := cells51 HW3.out.rF x m0 m1
          rw [rd_fates m0 m1] at f2
          have hsnoc : (nds l k).take (i + 1).toNat = (nds l k).take i.toNat ++ [x] := by rw [HX.out]; exact take_rd i0 hlt
          have HE3 : Aside0 (askF l (cn l) N x s1 = goL (askF l (cn l) N) (cn l) ((nds l k).take (i + 1).toNat) (s.1.set k.toNat true, s.2)) := ⟨by rw [hsnoc, goL_snoc _ _ _ HC2.out, ← HE2.out]⟩
          have HSN := Aside0.mk hsnoc
          clear hsnoc
          by_cases hcx : (fateOf l x).f0 = true
          · rw [hcx] at f2
            go_wp2
            go_roundg (gk - 1)
            case measure => have := HG.out; omega
            case rel =>
              refine ⟨i + 1, _, v2, by go_num, by omega, by omega, ⟨by have := HG.out; omega⟩, HI3, HU3, ⟨?_⟩, HE3, HW3⟩
              rw [HSN.out]; intro y hy
              rcases List.mem_append.1 hy with hy | hy
              · exact HC2.out y hy
              · rw [List.mem_singleton.1 hy]; exact hcx
          · simp only [Bool.not_eq_true] at hcx
            rw [hcx] at f2
            have hnc : (fateOf l k).f0 = false := by
              rw [Bool.eq_false_iff]; intro h
              have h1 := (can_iff.1 (fate_can.1 h)).2 x (by rw [HX.out]; exact rd_mem i0 hlt)
              rw [fate_can.2 h1] at hcx; cases hcx
            obtain ⟨f3, _⟩ := cells51 HW3.out.rF k k0 k1
            rw [rd_fates k0 k1, hnc] at f3
            have HZ : Aside0 (askF l (cn l) (N + 1) k s = askF l (cn l) N x s1) := ⟨by
              rw [askF_no HD.out hnc]
              have h9 : nds l k = (nds l k).take i.toNat ++ x :: (nds l k).drop (i.toNat + 1) := by
                rw [HX.out]
                have hi : i.toNat < (nds l k).length := by omega
                conv => lhs; rw [← List.take_append_drop i.toNat (nds l k), List.drop_eq_getElem_cons hi]
                simp [rd, List.getD_eq_getElem?_getD, List.getElem?_eq_getElem hi]
              rw [HE2.out]
              conv => lhs; rw [h9]
              exact goL_stop _ _ _ _ hcx HC2.out⟩
            clear hnc
            go_wp2
            go_end0
            exact ⟨v2, rfl, by rw [HZ.out]; exact HW3.out⟩
        · have hlt' : decide (i < ((rd_T43 l k).f0.length : Int)) = false := decide_eq_false hlt
          obtain ⟨f1, f1'⟩ := cell_of HW2.out.hf
          obtain ⟨f3, _⟩ := cells51 HW2.out.rF k k0 k1
          rw [rd_fates k0 k1] at f3
          have HE4 : Aside0 (s1 = goL (askF l (cn l) N) (cn l) (nds l k) (s.1.set k.toNat true, s.2)) := ⟨by rw [HE2.out, List.take_of_length_le (by omega)]⟩
          by_cases hck : (fateOf l k).f0 = true
          · rw [hck] at f3
            have HZ : Aside0 (askF l (cn l) (N + 1) k s = (s1.1, s1.2 ++ [k])) := ⟨askF_yes HD.out hck HE4.out⟩
            obtain ⟨v3, v3'⟩ := cell_of HW2.out.hv
            have hb0 := blk_lt HW2.out.hv
            have hol : s1.2.length ≤ 100 := by have := HI2.out.few; have := hr.vld.few; omega
            have hsz := HW2.out.low.size
            go_wp2_with (first
              | ((with_reducible refine gate_builtin (b := .append) (xs := #[.tmp 41, .tmp 43]) rfl ?_); at_builtin; refine Kd.R_append (Kd.int .i64) (w0 := w0) w0.heap.size rfl (.tmp 41) (.tmp 43) 26 3 (.int .i64 0) 8 rfl Try.underlying26 info3 rfl (by decide) (by decide) v1 s1.2 k [.int .i64 k] (fun _ => True) (fun _ => False) rfl rfl rfl (fun _ h => h.elim) (fun _ _ => trivial) HW2.out.rO HW2.out.low hsz (by omega) ?_; intro v9 w9 ho hb hg hat; obtain ⟨A9, c9, e9⟩ := Kd.R_slice ho; subst e9; have hbv9 : w9.heap[bv]? = some (.cells #[v1] 26 (0, 0)) := (hg.block bv hb0 (Kd.R_ne HW2.out.rO HW2.out.hv (by decide))).trans HW2.out.hv; obtain ⟨v5, v5'⟩ := cell_of hbv9; have hb9 := blk_lt hbv9; have HHO := Aside0.mk ho; have HHB := Aside0.mk hb; have HHG := Aside0.mk hg; have HHA := Aside0.mk hat; clear ho hb hg hat hbv9))
            have HW9 := HW2.out.tell HHG.out HHO.out HHB.out HHA.out rfl
            rw [show (s1.2 ++ [k]).length = s1.2.length + 1 by simp] at HW9
            go_end0
            exact ⟨_, rfl, by rw [HZ.out]; exact HW9⟩
          · simp only [Bool.not_eq_true] at hck
            rw [hck] at f3
            have HZ : Aside0 (askF l (cn l) (N + 1) k s = s1) := ⟨(askF_no HD.out hck).trans HE4.out.symm⟩
            go_wp2
            go_end0
            exact ⟨v1, rfl, by rw [HZ.out]; exact HW2.out⟩
end Go.Proofs.Ytgahkloigbhgdaa.PR
