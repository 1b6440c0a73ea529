/- The document's asking (butlerref11.asking.ask): what its call comes to. Conditions: the recipes are right. -/
import Derived.Test.YtgahkloigbhgdaaRp
namespace Go.Proofs.Ytgahkloigbhgdaa.PR
open Go.RowKit Go.Proofs.YtgahkloigbhgdaaW.PrintWords Go.Proofs.YtgahkloigbhgdaaW.PrintLast Go.Proofs.YtgahkloigbhgdaaW.PrintMore
set_option linter.unusedVariables false
set_option linter.unusedSimpArgs false

noncomputable def cans (l : List S43) : List Bool := (List.range l.length).map fun (i : Nat) => cn l (i : Int)
theorem cans_len (l : List S43) : (cans l).length = l.length := by simp [cans]
theorem rd_cans {l : List S43} {k : Int} (h0 : 0 ≤ k) (h1 : k < (l.length : Int)) : rdOf false (cans l) k = cn l k := by
  have : k.toNat < l.length := by omega
  simp [rdOf, cans, List.getD_eq_getElem?_getD, List.getElem?_map, List.getElem?_range this]
  rw [show max k 0 = k by omega]
/-- The asking's state in memory. -/
structure OA (l : List S43) (w0 : World) (A : Option Addr) (c ba gd gc capd capc : Nat) (w : World) (s : St) (v : Value) : Prop where
  ha : w.heap[ba]? = some (.cells #[.slice A l.length c, .slice (some ⟨gc, 0, none⟩) l.length capc, .slice (some ⟨gd, 0, none⟩) l.length capd, v] 61 (0, 0))
  rB : Kd.R Kd.bool 4 w w0.heap.size (fun _ => True) (.slice (some ⟨gd, 0, none⟩) l.length capd) s.1
  rC : Kd.F Kd.bool w (fun k => k = gc) (some ⟨gc, 0, none⟩) l.length (cans l)
  rO : Kd.R (Kd.int .i64) 3 w w0.heap.size (fun _ => True) v s.2
  rL : Kd.C k43 w0 A l.length l
  low : Below w0.heap.size w0 w
  ba0 : w0.heap.size ≤ ba
  ne : gc ≠ gd
  hgc : ∃ cs, w.heap[gc]? = some (.cells cs 4 (0, 0))
section
variable {l : List S43} {w0 : World} {A : Option Addr} {c ba gd gc capd capc : Nat} {w w1 : World} {s : St} {v v1 : Value}
/-- A key is begun. -/
theorem OA.begin (h : OA l w0 A c ba gd gc capd capc w s v) (k : Int) (e : w1 = w.setCell ⟨gd, k.toNat, none⟩ (.bool true)) : OA l w0 A c ba gd gc capd capc w1 (s.1.set k.toNat true, s.2) v := by
  obtain ⟨cd, hgd⟩ := Kd.R_typed h.rB gd rfl
  have hk : ∀ b, b ≠ gd → w1.heap[b]? = w.heap[b]? := fun b hb => by rw [e]; exact Below.heap_setCell _ _ _ _ hb
  have r1 : Kd.R Kd.bool 4 w1 w0.heap.size (fun _ => True) (.slice (some ⟨gd, 0, none⟩) l.length capd) (s.1.set k.toNat true) := e ▸ Kd.R_putn (h1 := fun _ => rfl) h.rB k true
  have hg : w.grownBy w1 (some gd) := e ▸ grown_set w gd k.toNat _
  obtain ⟨cs, hcs⟩ := h.hgc
  exact ⟨(hk _ (typ_ne h.ha hgd (by decide))).trans h.ha, r1, Kd.F_step h.rC (fun k hk' _ => hk k (by rw [hk']; exact h.ne)), Kd.R_grown2 h.rO rfl hg (fun k hk => by injection hk with hk; subst hk; exact Kd.R_ne h.rO hgd (by decide)), h.rL,
    e ▸ below_set h.low (Kd.R_base h.rB gd rfl), h.ba0, h.ne, ⟨cs, (hk _ h.ne).trans hcs⟩⟩
/-- A key is told. -/
theorem OA.tell {W1 : World} {O : List Int} (h : OA l w0 A c ba gd gc capd capc w s v) (hg : w.grownBy W1 v.ownBlock) (hr : Kd.R (Kd.int .i64) 3 W1 w0.heap.size (fun _ => True) v1 O) (hb : Below w0.heap.size w0 W1)
    (e : w1 = W1.setCell ⟨ba, 3, none⟩ v1) : OA l w0 A c ba gd gc capd capc w1 (s.1, O) v1 := by
  have keep : ∀ {b t : Nat} {cs : Array Value}, w.heap[b]? = some (.cells cs t (0, 0)) → t ≠ 3 → W1.heap[b]? = some (.cells cs t (0, 0)) := fun {b t cs} hb ht =>
    (hg.block b (blk_lt hb) (Kd.R_ne h.rO hb (by omega))).trans hb
  have keep2 : ∀ {b t : Nat} {cs : Array Value}, w.heap[b]? = some (.cells cs t (0, 0)) → t ≠ 3 → t ≠ 61 → w1.heap[b]? = some (.cells cs t (0, 0)) := fun {b t cs} hb ht ht' => by
    rw [e]; exact (Below.heap_setCell _ _ _ _ (typ_ne hb h.ha ht')).trans (keep hb ht)
  have hba := keep h.ha (by decide)
  have hg1 : W1.grownBy w1 (some ba) := e ▸ grown_set W1 ba 3 _
  obtain ⟨cs, hcs⟩ := h.hgc
  have hgc1 := keep2 hcs (by decide) (by decide)
  have a2 := Kd.R_grown2 h.rB rfl hg (fun k hk => by
    obtain ⟨cs, hc⟩ := Kd.R_typed h.rO k hk
    exact Kd.R_ne h.rB hc (by decide))
  have a3 := Kd.R_grown2 a2 rfl hg1 (fun k hk => by injection hk with hk; subst hk; exact Kd.R_ne a2 hba (by decide))
  exact ⟨e ▸ setCell_here hba, a3, Kd.F_step h.rC (fun k hk _ => by rw [hk, hgc1, hcs]), Kd.R_grown2 hr rfl hg1 (fun k hk => by injection hk with hk; subst hk; exact Kd.R_ne hr hba (by decide)), h.rL, e ▸ below_set hb h.ba0, h.ba0, h.ne, ⟨cs, hgc1⟩⟩
/-- What stands in the state's places. -/
theorem OA.cells (h : OA l w0 A c ba gd gc capd capc w s v) : w.cell? ⟨ba, 0, none⟩ = some (.slice A l.length c) ∧ w.cell? ⟨ba, 1, none⟩ = some (.slice (some ⟨gc, 0, none⟩) l.length capc) ∧ w.cell? ⟨ba, 2, none⟩ = some (.slice (some ⟨gd, 0, none⟩) l.length capd) ∧ w.cell? ⟨ba, 3, none⟩ = some v ∧ w.frozen? ⟨ba, 3, none⟩ = false ∧ ba < w.heap.size :=
  ⟨(blk_cell h.ha 0).trans rfl, (blk_cell h.ha 1).trans rfl, (blk_cell h.ha 2).trans rfl, (blk_cell h.ha 3).trans rfl, by simp [World.frozen?, h.ha], blk_lt h.ha⟩
end
def Hid (P : Prop) : Prop := P
theorem Hid.out {P : Prop} (h : Hid P) : P := h
structure RaskPost (l : List S43) (w0 : World) (A : Option Addr) (c ba gd gc capd capc : Nat) (s' : St) (e : Ending) (w' : World) : Prop where
  out : ∃ v', e = .returned (.tuple #[]) ∧ OA l w0 A c ba gd gc capd capc w' s' v'

set_option maxHeartbeats 8000000 in
set_option maxRecDepth 100000 in
theorem rask_calls {l : List S43} {w0 : World} {A : Option Addr} {c ba gd gc capd capc : Nat} (hr : Rgt l) (hc : l.length ≤ c) : ∀ (N : Nat) (k : Int) (s : St) (v : Value) (p : Nat) (w : World),
    unm s.1 < N → 0 ≤ k → k < (l.length : Int) → AI l.length p s → OA l w0 A c ba gd gc capd capc w s v →
    Calls Try.prog 33 #[ptr ba, .int .i64 k] w fun e w' => RaskPost l w0 A c ba gd gc capd capc (askF l (cn l) N k s) e w' := by
  intro N
  induction N with
  | zero => intro k s v p w h; omega
  | succ N ih =>
    intro k s v p w hN k0 k1 hI hW
    have IH := Aside0.mk ih
    clear ih
    have HI := Aside0.mk hI
    have HW := Aside0.mk hW
    clear hI hW
    obtain ⟨_, _, b1, _, _, bb0⟩ := HW.out.cells
    obtain ⟨d2, d2'⟩ := Kd.R_celln (d := false) HW.out.rB k k0 k1
    have gd0 := Kd.R_lt HW.out.rB gd rfl
    by_cases hd : rdOf false s.1 k = true
    · have HS : Aside0 (askF l (cn l) (N + 1) k s = s) := ⟨askF_old hd⟩
      rw [hd] at d2
      go_enter Try.func33, Try.ntmps33
      go_wp2
      go_end0
      exact ⟨v, rfl, by rw [HS.out]; exact HW.out⟩
    · simp only [Bool.not_eq_true] at hd
      rw [hd] at d2
      obtain ⟨ad, A1, c1, eA, g0, _, _, _, _, gl, gC⟩ := at_T43 HW.out.rL k k0 k1
      have GC : Aside0 ((Kd.int .i64).C w0 A1 (nds l k).length (nds l k)) := Aside0.mk gC
      subst eA
      have HG8 := Aside0.mk g0
      clear gC gl
      obtain ⟨w1, hw1⟩ : ∃ w1, w1 = w.setCell ⟨gd, k.toNat, none⟩ (.bool true) := ⟨_, rfl⟩
      have HW1 := Aside0.mk (HW.out.begin k hw1)
      obtain ⟨l1, lc, lb, _, _, _⟩ := HW1.out.cells
      have g1 := pw_cell_below HW1.out.low g0
      rw [hw1] at l1 g1
      go_enter Try.func33, Try.ntmps33
      go_wp2
      rw [← hw1]
      have hu : unm (s.1.set k.toNat true) + 1 = unm s.1 := unm_set (by rw [HI.out.len]; omega) (by have := hd; unfold rdOf at this; exact this)
      have HI1 : Aside0 (AI l.length (p + 1) (s.1.set k.toNat true, s.2)) := ⟨⟨by simp [HI.out.len], by have := HI.out.few; simp; omega⟩⟩
      have HU := Aside0.mk (show unm (s.1.set k.toNat true) < N by omega)
      have HD := Aside0.mk hd
      clear hw1 l1 lc lb g1 b1 d2 d2' hu hd bb0 gd0
      go_loopg [4] ((nds l k).length + 1) (fun gk v4 wr => ∃ (i : Int) (s1 : St) (v1 : Value), v4 = .int .i64 i ∧ 0 ≤ i ∧ i ≤ ((nds l k).length : Int) ∧ Aside0 ((nds l k).length - i.toNat < gk) ∧ Aside0 (AI l.length (p + 1) s1) ∧ Aside0 (unm s1.1 < N) ∧
        Aside0 (∀ x ∈ (nds l k).take i.toNat, cn l x = true) ∧ Aside0 (s1 = goL (askF l (cn l) N) (cn l) ((nds l k).take i.toNat) (s.1.set k.toNat true, s.2)) ∧ Aside0 (OA l w0 (some ad) c ba gd gc capd capc wr s1 v1))
      case atStart => exact ⟨0, _, v, rfl, by omega, by omega, ⟨by omega⟩, HI1, HU, ⟨by simp⟩, ⟨by simp [goL]⟩, HW1⟩
      case round =>
        clear HW1
        obtain ⟨i, s1, v1, rfl, i0, i1, HG, HI2, HU2, HC2, HE2, HW2⟩ := hrel
        have hn20 : (nds l k).length ≤ 20 := hr.vld.each k k0 k1
        by_cases hlt : i < ((nds l k).length : Int)
        · obtain ⟨m0, m1⟩ := hr.vld.keys k k0 k1 i i0 hlt
          obtain ⟨ad2, e2, g2⟩ := Kd.at_int (Kd.C_below GC.out HW2.out.low) i i0 hlt
          subst e2
          obtain ⟨x, hx⟩ : ∃ x, x = rd (nds l k) i := ⟨_, rfl⟩
          rw [← hx] at m0 m1
          have y5 : wr.cell? (ad2.add i.toNat) = some (.int .i64 x) := by rw [hx]; exact g2
          have HX := Aside0.mk hx
          clear g2 hx
          obtain ⟨z1, _, _, _, _, zb⟩ := HW2.out.cells
          have g8 := pw_cell_below HW2.out.low HG8.out
          have hlt' : decide (i < ((rd_T43 l k).f0.length : Int)) = true := decide_eq_true hlt
          go_wp2_with fail
          refine (IH.out x s1 v1 (p + 1) wr HU2.out m0 m1 HI2.out HW2.out).mono ?_
          rintro e w2 ⟨⟨v2, rfl, hW3⟩⟩
          have HW3 := Aside0.mk hW3
          obtain ⟨hk1, hk2⟩ := askF_keeps (c := cn l) hr.vld N x s1 (p + 1) m0 m1 HI2.out
          have HI3 := Aside0.mk hk1
          have HU3 : Aside0 (unm (askF l (cn l) N x s1).1 < N) := ⟨Nat.lt_of_le_of_lt hk2 HU2.out⟩
          clear hW3 hk1 hk2 y5 z1 zb g8
          obtain ⟨_, f1, _, _, _, _⟩ := HW3.out.cells
          obtain ⟨_, ef, f2⟩ := Kd.at_bool (Kd.F_now HW3.out.rC) x m0 m1
          obtain rfl := Option.some.inj ef
          rw [rd_cans m0 m1, Addr.add_lit, Nat.zero_add] at f2
          unfold cn at f2
          have hsnoc : (nds l k).take (i + 1).toNat = (nds l k).take i.toNat ++ [x] := by rw [HX.out]; exact take_rd i0 hlt
          have HE3 : Aside0 (askF l (cn l) N x s1 = goL (askF l (cn l) N) (cn l) ((nds l k).take (i + 1).toNat) (s.1.set k.toNat true, s.2)) := ⟨by rw [hsnoc, goL_snoc _ _ _ HC2.out, ← HE2.out]⟩
          have HSN := Aside0.mk hsnoc
          clear hsnoc
          by_cases hcx : (fateOf l x).f0 = true
          · rw [hcx] at f2
            go_wp2
            go_roundg (gk - 1)
            case measure => have := HG.out; omega
            case rel =>
              refine ⟨i + 1, _, v2, by go_num, by omega, by omega, ⟨by have := HG.out; omega⟩, HI3, HU3, ⟨?_⟩, HE3, HW3⟩
              rw [HSN.out]; intro y hy
              rcases List.mem_append.1 hy with hy | hy
              · exact HC2.out y hy
              · rw [List.mem_singleton.1 hy]; exact hcx
          · simp only [Bool.not_eq_true] at hcx
            rw [hcx] at f2
            have hnc : (fateOf l k).f0 = false := by
              rw [Bool.eq_false_iff]; intro h
              have h1 := (can_iff.1 (fate_can.1 h)).2 x (by rw [HX.out]; exact rd_mem i0 hlt)
              rw [fate_can.2 h1] at hcx; cases hcx
            have HZ : Aside0 (askF l (cn l) (N + 1) k s = askF l (cn l) N x s1) := ⟨by
              rw [askF_no HD.out hnc]
              have h9 : nds l k = (nds l k).take i.toNat ++ x :: (nds l k).drop (i.toNat + 1) := by
                rw [HX.out]
                have hi : i.toNat < (nds l k).length := by omega
                conv => lhs; rw [← List.take_append_drop i.toNat (nds l k), List.drop_eq_getElem_cons hi]
                simp [rd, List.getD_eq_getElem?_getD, List.getElem?_eq_getElem hi]
              rw [HE2.out]
              conv => lhs; rw [h9]
              exact goL_stop _ _ _ _ hcx HC2.out⟩
            clear hnc
            go_wp2
            go_end0
            exact ⟨v2, rfl, by rw [HZ.out]; exact HW3.out⟩
        · have hlt' : decide (i < ((rd_T43 l k).f0.length : Int)) = false := decide_eq_false hlt
          obtain ⟨z1, f1, _, zo, zf, zb⟩ := HW2.out.cells
          have g8 := pw_cell_below HW2.out.low HG8.out
          obtain ⟨_, ef, f3⟩ := Kd.at_bool (Kd.F_now HW2.out.rC) k k0 k1
          obtain rfl := Option.some.inj ef
          rw [rd_cans k0 k1, Addr.add_lit, Nat.zero_add] at f3
          unfold cn at f3
          have HE4 : Aside0 (s1 = goL (askF l (cn l) N) (cn l) (nds l k) (s.1.set k.toNat true, s.2)) := ⟨by rw [HE2.out, List.take_of_length_le (by omega)]⟩
          by_cases hck : (fateOf l k).f0 = true
          · rw [hck] at f3
            have HZ : Aside0 (askF l (cn l) (N + 1) k s = (s1.1, s1.2 ++ [k])) := ⟨askF_yes HD.out hck HE4.out⟩
            have hol : s1.2.length ≤ 100 := by have := HI2.out.few; have := hr.vld.few; omega
            have hsz := HW2.out.low.size
            go_wp2_with (first
              | ((with_reducible refine gate_builtin (b := .append) (xs := #[.tmp 65, .tmp 67]) rfl ?_); at_builtin; refine Hid.out ?_))
            unfold Hid
            refine Kd.R_append (Kd.int .i64) (w0 := w0) w0.heap.size rfl (.tmp 65) (.tmp 67) 26 3 (.int .i64 0) 8 rfl Try.underlying26 info3 rfl (by decide) (by decide) v1 s1.2 k [.int .i64 k] (fun _ => True) (fun _ => False) rfl rfl rfl (fun _ h => h.elim) (fun _ _ => trivial) HW2.out.rO HW2.out.low hsz (by omega) ?_
            intro v9 w9 ho hb hg hat
            obtain ⟨A9, c9, e9⟩ := Kd.R_slice ho
            subst e9
            have hba9 : w9.heap[ba]? = some (.cells #[.slice (some ad) l.length c, .slice (some ⟨gc, 0, none⟩) l.length capc, .slice (some ⟨gd, 0, none⟩) l.length capd, v1] 61 (0, 0)) := (hg.block ba zb (Kd.R_ne HW2.out.rO HW2.out.ha (by decide))).trans HW2.out.ha
            have v5 : w9.cell? ⟨ba, 3, none⟩ = some v1 := (blk_cell hba9 3).trans rfl
            have v5' : w9.frozen? ⟨ba, 3, none⟩ = false := by simp [World.frozen?, hba9]
            have hb9 := blk_lt hba9
            have HHO := Aside0.mk ho
            have HHB := Aside0.mk hb
            have HHG := Aside0.mk hg
            have HHA := Aside0.mk hat
            clear ho hb hg hat hba9
            go_wp2
            have HW9 := HW2.out.tell HHG.out HHO.out HHB.out rfl
            rw [show (s1.2 ++ [k]).length = s1.2.length + 1 by simp] at HW9
            go_end0
            exact ⟨_, rfl, by rw [HZ.out]; exact HW9⟩
          · simp only [Bool.not_eq_true] at hck
            rw [hck] at f3
            have HZ : Aside0 (askF l (cn l) (N + 1) k s = s1) := ⟨(askF_no HD.out hck).trans HE4.out.symm⟩
            go_wp2
            go_end0
            exact ⟨v1, rfl, by rw [HZ.out]; exact HW2.out⟩
end Go.Proofs.Ytgahkloigbhgdaa.PR
