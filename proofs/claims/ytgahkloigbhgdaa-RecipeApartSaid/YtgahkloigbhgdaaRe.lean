/- RecipeApart's walk. Conditions: none. -/
import Derived.Test.YtgahkloigbhgdaaPRx3
import Derived.Test.YtgahkloigbhgdaaPRx5
import Derived.Test.YtgahkloigbhgdaaPRx6
import Derived.Test.YtgahkloigbhgdaaRd
import Derived.Laws.NewBlocks
namespace Go.Proofs.Ytgahkloigbhgdaa.PR
open Go.RowKit Go.Proofs.YtgahkloigbhgdaaW.PrintWords Go.Proofs.YtgahkloigbhgdaaW.PrintLast Go.Proofs.YtgahkloigbhgdaaW.PrintMore
set_option linter.unusedVariables false
set_option linter.unusedSimpArgs false

/-- What is read stays where the cells stay. -/
theorem cell_stays {W W' : World} (hW : ∀ k, k < W.heap.size → W'.heap[k]? = W.heap[k]?) {a : Addr} {u : Value} (h : W.cell? a = some u) : W'.cell? a = some u := by
  have := hW _ (World.block_lt_of_cell? W _ h)
  simp only [World.cell?, this] at h ⊢
  exact h
theorem row_stays {α : Type} {R R' : α → List Value → Prop} {sz n : Nat} {A : Option Addr} {xs : List α} {W W' : World} (hW : ∀ k, k < W.heap.size → W'.heap[k]? = W.heap[k]?) (hR : ∀ x c, R x c → R' x c) (h : ReadsRow R sz W A n xs) : ReadsRow R' sz W' A n xs := by
  obtain ⟨h1, h2, h3⟩ := h
  refine ⟨h1, h2, fun hp => ?_⟩
  obtain ⟨ad, e, hc⟩ := h3 hp
  refine ⟨ad, e, fun j p hj => ?_⟩
  obtain ⟨c, c1, c2, c3⟩ := hc j p hj
  exact ⟨c, c1, hR p c c2, fun i u hu => cell_stays hW (c3 i u hu)⟩
theorem ints_F {W : World} {A : Option Addr} {n : Nat} {xs : List Int} (h : (Kd.int .i64).C W A n xs) : Kd.F (Kd.int .i64) W (fun _ => True) A n xs := fun W' hW => row_stays (fun k hk => hW k trivial hk) (fun x c hx => hx) h
theorem recipes_F {W : World} {A : Option Addr} {n : Nat} {xs : List S43} (h : k43.C W A n xs) : Kd.F k43 W (fun _ => True) A n xs := fun W' hW => row_stays (fun k hk => hW k trivial hk) (fun x c hx => by
  obtain ⟨A0, c0, rfl, l0, g0⟩ := k43_open hx
  exact k43_mk W' x l0 (ints_F g0 W' hW)) h

set_option maxHeartbeats 4000000 in
set_option maxRecDepth 100000 in
theorem apart_out (A0 : Option Addr) (c0 : Nat) (l : List S43) (key : Int) (A2 : Option Addr) (c2 : Nat) (raw : List Int) (w : World) (hr0 : Kd.C k43 w A0 l.length l) (hc0 : l.length ≤ c0)
    (hb : rightN l ≠ 0 ∨ key < 0 ∨ key ≥ (l.length : Int)) : Calls Try.prog 7 #[.slice A0 l.length c0, .int .i64 key, .slice A2 raw.length c2] w fun e w' => e = .returned (.bool true) ∧ Below w.heap.size w w' := by
  have HR0 := Aside0.mk hr0
  have HC0 := Aside0.mk hc0
  clear hr0 hc0
  obtain ⟨k1, e1⟩ := awake_ev.rounds
  obtain ⟨k2, e2⟩ := (refRight_ev l).rounds
  have A1 := Aside0.mk e1
  have A3 := Aside0.mk e2
  clear e1 e2
  generalize rightN l = r at *
  by_cases d1 : r = 0
  · subst d1
    by_cases d2 : key < 0
    · have d2b : decide (key < 0) = true := decide_eq_true d2
      clear hb
      go_enter Try.func7, Try.ntmps7
      go_wp2_with (first | (go_at_call 8; (with_reducible refine (butlerlaw11_awake.calls k1 true _ A1.out).mono ?_); rintro e w5 ⟨rfl, hb⟩; have HB1 := Aside0.mk hb; clear hb) | (go_at_call 18; (with_reducible refine (butlerref11_Right.calls k2 _ _ l _ _ ?side1 ?side2 A3.out).mono ?_); (case side1 => exact Kd.C_below HR0.out HB1.out); (case side2 => exact HC0.out); rintro e w6 ⟨rfl, hb⟩; have HB2 := Aside0.mk (below_step HB1.out hb); clear hb))
      go_ret
      exact ⟨rfl, HB2.out⟩
    · have d2b : decide (key < 0) = false := decide_eq_false d2
      have d3 : key ≥ (l.length : Int) := by omega
      have d3b : decide (key ≥ (l.length : Int)) = true := decide_eq_true d3
      clear hb
      go_enter Try.func7, Try.ntmps7
      go_wp2_with (first | (go_at_call 8; (with_reducible refine (butlerlaw11_awake.calls k1 true _ A1.out).mono ?_); rintro e w5 ⟨rfl, hb⟩; have HB1 := Aside0.mk hb; clear hb) | (go_at_call 18; (with_reducible refine (butlerref11_Right.calls k2 _ _ l _ _ ?side1 ?side2 A3.out).mono ?_); (case side1 => exact Kd.C_below HR0.out HB1.out); (case side2 => exact HC0.out); rintro e w6 ⟨rfl, hb⟩; have HB2 := Aside0.mk (below_step HB1.out hb); clear hb))
      go_ret
      exact ⟨rfl, HB2.out⟩
  · have d1b : (r != 0) = true := bne_iff_ne.mpr d1
    clear hb
    go_enter Try.func7, Try.ntmps7
    go_wp2_with (first | (go_at_call 8; (with_reducible refine (butlerlaw11_awake.calls k1 true _ A1.out).mono ?_); rintro e w5 ⟨rfl, hb⟩; have HB1 := Aside0.mk hb; clear hb) | (go_at_call 18; (with_reducible refine (butlerref11_Right.calls k2 _ _ l _ _ ?side1 ?side2 A3.out).mono ?_); (case side1 => exact Kd.C_below HR0.out HB1.out); (case side2 => exact HC0.out); rintro e w6 ⟨rfl, hb⟩; have HB2 := Aside0.mk (below_step HB1.out hb); clear hb))
    go_ret
    exact ⟨rfl, HB2.out⟩
theorem apx_same {l : List S43} {key : Int} {raw : List Int} {i : Int} (h : i = key ∨ Rch l key i) : apx l key raw i = rd_T43 l i := by
  unfold apx
  rw [if_neg]
  rintro ⟨a, b⟩
  exact h.elim a b
theorem one_F {W : World} {i : Int} : Kd.F (Kd.int .i64) (W.alloc (.cells #[.int .i64 i] 3)) (fun k => k = W.heap.size) (some ⟨W.heap.size, 0, none⟩) 1 [i] := by
  intro W' hW
  have hb := hW W.heap.size rfl (by simp)
  rw [blk_new W] at hb
  refine ⟨rfl, by omega, fun _ => ⟨_, rfl, fun j p hj => ?_⟩⟩
  obtain rfl : j = 0 := by have := (List.getElem?_eq_some_iff.1 hj).1; simp at this; omega
  simp only [List.getElem?_cons_zero, Option.some.injEq] at hj
  subst hj
  refine ⟨[.int .i64 i], rfl, rfl, fun q u hu => ?_⟩
  obtain rfl : q = 0 := by have := (List.getElem?_eq_some_iff.1 hu).1; simp at this; omega
  simp only [List.getElem?_cons_zero, Option.some.injEq] at hu
  subst hu
  obtain ⟨z1, _⟩ := cell_of hb
  simpa [Addr.add] using z1
theorem elem43 {w7 wo : World} {A : Option Addr} {n : Nat} {xs : List S43} (h : Kd.C k43 w7 A n xs) (hb : Below w7.heap.size w7 wo) (i : Int) (h0 : 0 ≤ i) (h1 : i < n) :
    ∃ ad A0 c0, A = some ad ∧ wo.cell? (ad.add (i.toNat * 5)) = some (.slice A0 (rd_T43 xs i).f0.length c0) ∧ wo.cell? ⟨(ad.add (i.toNat * 5)).block, (ad.add (i.toNat * 5)).off + 1, none⟩ = some (.int .i64 (rd_T43 xs i).f1) ∧
      wo.cell? ⟨(ad.add (i.toNat * 5)).block, (ad.add (i.toNat * 5)).off + 2, none⟩ = some (.int .i64 (rd_T43 xs i).f2) ∧ wo.cell? ⟨(ad.add (i.toNat * 5)).block, (ad.add (i.toNat * 5)).off + 3, none⟩ = some (.int .i64 (rd_T43 xs i).f3) ∧
      wo.cell? ⟨(ad.add (i.toNat * 5)).block, (ad.add (i.toNat * 5)).off + 4, none⟩ = some (.int .i64 (rd_T43 xs i).f4) ∧ (rd_T43 xs i).f0.length ≤ c0 ∧ Kd.F (Kd.int .i64) wo (fun k => True ∧ k < w7.heap.size) A0 (rd_T43 xs i).f0.length (rd_T43 xs i).f0 := by
  obtain ⟨ad, A0, c0, e, x0, x1, x2, x3, x4, hc, hC⟩ := at_T43 h i h0 h1
  have st : ∀ {a : Addr} {u : Value}, w7.cell? a = some u → wo.cell? a = some u := fun h => cell_stays (fun k hk => hb.block k hk) h
  exact ⟨ad, A0, c0, e, st x0, st x1, st x2, st x3, st x4, hc, Kd.F_below (Kd.F_bound (ints_F hC)) hb⟩

set_option maxHeartbeats 8000000 in
set_option maxRecDepth 100000 in
theorem apart_in (A0 : Option Addr) (c0 : Nat) (l : List S43) (key : Int) (A2 : Option Addr) (c2 : Nat) (raw : List Int) (w : World) (hr0 : Kd.C k43 w A0 l.length l) (hc0 : l.length ≤ c0)
    (hr2 : Kd.C (Kd.int .i64) w A2 raw.length raw) (hc2 : raw.length ≤ c2)
    (hb : rightN l = 0) (hk0 : 0 ≤ key) (hk1 : key < (l.length : Int)) : Calls Try.prog 7 #[.slice A0 l.length c0, .int .i64 key, .slice A2 raw.length c2] w fun e w' => e = .returned (.bool true) ∧ Below w.heap.size w w' := by
  have HR0 := Aside0.mk hr0
  have HC0 := Aside0.mk hc0
  have HR2 := Aside0.mk hr2
  have HC2 := Aside0.mk hc2
  clear hr0 hc0 hr2 hc2
  obtain ⟨rg, hp⟩ := rgt_of hb
  have few := rg.vld.few
  obtain ⟨k1, e1⟩ := awake_ev.rounds
  obtain ⟨k2, e2⟩ := (refRight_ev l).rounds
  obtain ⟨t, ht, et⟩ := table_ev rg.vld
  obtain ⟨k3, e3⟩ := et.rounds
  obtain ⟨k4, e4⟩ := (Fate_ev l key).rounds
  obtain ⟨k5, e5⟩ := (Fate_ev (apm l key raw l.length) key).rounds
  rw [ap_fate hb key raw hk0 hk1] at e5
  obtain ⟨⟨fa, fn⟩, hf⟩ : ∃ p, p = fateP l key := ⟨_, rfl⟩
  rw [← hf] at e4 e5
  clear hf
  rw [hb] at e2
  have A1 := Aside0.mk e1
  have A3 := Aside0.mk e2
  have A4 := Aside0.mk e3
  have A5 := Aside0.mk e4
  have A6 := Aside0.mk e5
  have HT := Aside0.mk ht
  have HRN := Aside0.mk hb
  have HRG := Aside0.mk rg
  clear e1 e2 e3 e4 e5 ht rg et hb
  have d2b : decide (key < 0) = false := decide_eq_false (by omega)
  have d3b : decide (key ≥ (l.length : Int)) = false := decide_eq_false (by omega)
  go_enter Try.func7, Try.ntmps7
  go_wp2_with (first | (go_at_call 8; (with_reducible refine (butlerlaw11_awake.calls k1 true _ A1.out).mono ?_); rintro e w5 ⟨rfl, hb⟩; have HB1 := Aside0.mk hb; clear hb) | (go_at_call 18; (with_reducible refine (butlerref11_Right.calls k2 _ _ l _ _ ?side1 ?side2 A3.out).mono ?_); (case side1 => exact Kd.C_below HR0.out HB1.out); (case side2 => exact HC0.out); rintro e w6 ⟨rfl, hb⟩; have HB2 := Aside0.mk (below_step HB1.out hb); clear hb) | (go_at_call 23; (with_reducible refine (butlerlaw11_table.calls k3 _ _ l t _ ?side1 ?side2 A4.out).mono ?_); (case side1 => exact Kd.C_below HR0.out HB2.out); (case side2 => exact HC0.out); rintro e w7 ⟨vt, rfl, hs, hb⟩; have HB3 := Aside0.mk (below_step HB2.out hb); obtain ⟨At, ct, rfl, hct, hCt⟩ := Kd.S_reads hs; have HT7 := Aside0.mk hCt; clear hb hs hCt))
  have HL7 := Aside0.mk (Kd.C_below HR0.out HB3.out)
  have HRW7 := Aside0.mk (Kd.C_below HR2.out HB3.out)
  obtain ⟨B, hB⟩ : ∃ B, B = w7.heap.size := ⟨_, rfl⟩
  go_loopg [10, 11] (l.length + 1) (fun gk v10 v11 wr => ∃ (i : Int) (v : Value), v10 = v ∧ v11 = .int .i64 i ∧ 0 ≤ i ∧ i ≤ (l.length : Int) ∧ Aside0 (l.length - i.toNat < gk) ∧ Aside0 (Kd.N k43 43 wr w7.heap.size (fun _ => True) v (apm l key raw i.toNat)) ∧ Aside0 (Below w7.heap.size w7 wr))
  case atStart => exact ⟨0, _, rfl, rfl, by omega, by omega, ⟨by omega⟩, ⟨Kd.N_nil _ _ _ _ _⟩, ⟨Below.refl _ _⟩⟩
  case round =>
    obtain ⟨i, v, rfl, rfl, i0, i1, HG, HN, HB⟩ := hrel
    obtain ⟨wo, hwo⟩ : ∃ wo, wo = wr := ⟨_, rfl⟩
    subst hwo
    by_cases hlt : i < (l.length : Int)
    · have hlt' : decide (i < (l.length : Int)) = true := decide_eq_true hlt
      obtain ⟨ad, Ai, ci, eA, x0, x1, x2, x3, x4, hci, hF⟩ := elem43 HL7.out HB.out i i0 hlt
      subst eA
      have HF := Aside0.mk hF
      have HCI := Aside0.mk hci
      clear hF hci
      by_cases hik : i = key
      · have hikb : (i != key) = false := bne_eq_false_iff_eq.mpr hik
        have HIK := Aside0.mk hik
        clear hik
        by_cases hraw : i < (raw.length : Int)
        · have hrawb : decide (i < (raw.length : Int)) = true := decide_eq_true hraw
          obtain ⟨ad2, eA2, g2⟩ := Kd.at_int (Kd.C_alloc (Kd.C_below HRW7.out HB.out) (.cells #[.slice Ai (rd_T43 l i).f0.length ci, .int .i64 (rd_T43 l i).f1, .int .i64 (rd_T43 l i).f2, .int .i64 (rd_T43 l i).f3, .int .i64 (rd_T43 l i).f4] 43)) i i0 hraw
          subst eA2
          have HRA : Aside0 (rawAt raw i = rd raw i) := ⟨by unfold rawAt; rw [if_pos hraw]⟩
          go_wp2_with (((with_reducible refine gate_builtin (b := .append) (xs := #[.tmp 84, .tmp 86]) rfl ?_); at_builtin; refine Kd.N_append k43 (w0 := w7) w7.heap.size rfl (.tmp 84) (.tmp 86) 25 43 (.agg #[(.slice none 0 0), (.int .i64 0), (.int .i64 0), (.int .i64 0), (.int .i64 0)]) 56 rfl Try.underlying25 info43 rfl (by decide) (by decide) u10 (apm l key raw i.toNat) (rd_T43 l i) [.slice Ai (rd_T43 l i).f0.length ci, .int .i64 (rd_T43 l i).f1, .int .i64 (rd_T43 l i).f2, .int .i64 (rd_T43 l i).f3, .int .i64 (rd_T43 l i).f4] (fun _ => True) (fun k => True ∧ k < w7.heap.size) rfl (by show Value.slice _ _ _ = _; simp) ?aP ?aK (fun _ _ => trivial) ?aO ?aB ?aS ?aL ?_; (case aP => exact k43_mkF _ _ (rd_T43 l i) HCI.out (Kd.F_alloc HF.out _)); (case aK => exact fun k hk => ⟨trivial, fun e => by have := Kd.N_base HN.out k e.symm; have := hk.2; omega⟩); (case aO => exact Kd.N_alloc HN.out _); (case aB => exact below_alloc HB.out _); (case aS => exact Nat.le_trans HB.out.size (by simp only [World.size_alloc]; omega)); (case aL => rw [apm_len]; omega); intro v1 w1 hN hb hg hat; have HN1 := Aside0.mk hN; have HB1 := Aside0.mk hb; clear hN hb hg hat))
          go_roundg (gk - 1)
          case measure => have := HG.out; omega
          case rel =>
            refine ⟨i + 1, v1, rfl, by go_num, by omega, by omega, ⟨by have := HG.out; omega⟩, ⟨?_⟩, HB1⟩
            rw [show (i + 1).toNat = i.toNat + 1 by omega]
            have e : apx l key raw ((i.toNat : Nat) : Int) = rd_T43 l i := by
              rw [Int.toNat_of_nonneg i0]
              exact apx_same (by first | exact .inl HIK.out | exact .inr HCR.out)
            simp only [apm]
            rw [e]
            exact HN1.out
        · have hrawb : decide (i < (raw.length : Int)) = false := decide_eq_false hraw
          have HRA : Aside0 (rawAt raw i = 0) := ⟨by unfold rawAt; rw [if_neg hraw]⟩
          go_wp2_with (((with_reducible refine gate_builtin (b := .append) (xs := #[.tmp 84, .tmp 86]) rfl ?_); at_builtin; refine Kd.N_append k43 (w0 := w7) w7.heap.size rfl (.tmp 84) (.tmp 86) 25 43 (.agg #[(.slice none 0 0), (.int .i64 0), (.int .i64 0), (.int .i64 0), (.int .i64 0)]) 56 rfl Try.underlying25 info43 rfl (by decide) (by decide) u10 (apm l key raw i.toNat) (rd_T43 l i) [.slice Ai (rd_T43 l i).f0.length ci, .int .i64 (rd_T43 l i).f1, .int .i64 (rd_T43 l i).f2, .int .i64 (rd_T43 l i).f3, .int .i64 (rd_T43 l i).f4] (fun _ => True) (fun k => True ∧ k < w7.heap.size) rfl (by show Value.slice _ _ _ = _; simp) ?aP ?aK (fun _ _ => trivial) ?aO ?aB ?aS ?aL ?_; (case aP => exact k43_mkF _ _ (rd_T43 l i) HCI.out (Kd.F_alloc HF.out _)); (case aK => exact fun k hk => ⟨trivial, fun e => by have := Kd.N_base HN.out k e.symm; have := hk.2; omega⟩); (case aO => exact Kd.N_alloc HN.out _); (case aB => exact below_alloc HB.out _); (case aS => exact Nat.le_trans HB.out.size (by simp only [World.size_alloc]; omega)); (case aL => rw [apm_len]; omega); intro v1 w1 hN hb hg hat; have HN1 := Aside0.mk hN; have HB1 := Aside0.mk hb; clear hN hb hg hat))
          go_roundg (gk - 1)
          case measure => have := HG.out; omega
          case rel =>
            refine ⟨i + 1, v1, rfl, by go_num, by omega, by omega, ⟨by have := HG.out; omega⟩, ⟨?_⟩, HB1⟩
            rw [show (i + 1).toNat = i.toNat + 1 by omega]
            have e : apx l key raw ((i.toNat : Nat) : Int) = rd_T43 l i := by
              rw [Int.toNat_of_nonneg i0]
              exact apx_same (by first | exact .inl HIK.out | exact .inr HCR.out)
            simp only [apm]
            rw [e]
            exact HN1.out
      · have hikb : (i != key) = true := bne_iff_ne.mpr hik
        have HIK := Aside0.mk hik
        clear hik
        obtain ⟨ad3, Ar, cr, eA3, y0, hrl, hCr⟩ := at_L5 (Kd.C_alloc (Kd.C_below HT7.out HB.out) (.cells #[.slice Ai (rd_T43 l i).f0.length ci, .int .i64 (rd_T43 l i).f1, .int .i64 (rd_T43 l i).f2, .int .i64 (rd_T43 l i).f3, .int .i64 (rd_T43 l i).f4] 43)) key hk0 (by have := HT.out.len; omega)
        subst eA3
        obtain ⟨ad4, eA4, y1⟩ := Kd.at_bool hCr i i0 (by have := HT.out.row key hk0 hk1; omega)
        subst eA4
        have HSAY := Aside0.mk (HT.out.say key i hk0 hk1 i0 hlt)
        have klt : key < (t.length : Int) := by have := HT.out.len; omega
        have rlt : i < ((rd_L5 t key).length : Int) := by have := HT.out.row key hk0 hk1; omega
        clear hrl hCr
        cases hy : rdOf false (rd_L5 t key) i with
        | true =>
          rw [hy] at y1 HSAY
          have HCR := Aside0.mk (HSAY.out.1 rfl)
          clear hy
          by_cases hraw : i < (raw.length : Int)
          · have hrawb : decide (i < (raw.length : Int)) = true := decide_eq_true hraw
            obtain ⟨ad2, eA2, g2⟩ := Kd.at_int (Kd.C_alloc (Kd.C_below HRW7.out HB.out) (.cells #[.slice Ai (rd_T43 l i).f0.length ci, .int .i64 (rd_T43 l i).f1, .int .i64 (rd_T43 l i).f2, .int .i64 (rd_T43 l i).f3, .int .i64 (rd_T43 l i).f4] 43)) i i0 hraw
            subst eA2
            have HRA : Aside0 (rawAt raw i = rd raw i) := ⟨by unfold rawAt; rw [if_pos hraw]⟩
            go_wp2_with (((with_reducible refine gate_builtin (b := .append) (xs := #[.tmp 84, .tmp 86]) rfl ?_); at_builtin; refine Kd.N_append k43 (w0 := w7) w7.heap.size rfl (.tmp 84) (.tmp 86) 25 43 (.agg #[(.slice none 0 0), (.int .i64 0), (.int .i64 0), (.int .i64 0), (.int .i64 0)]) 56 rfl Try.underlying25 info43 rfl (by decide) (by decide) u10 (apm l key raw i.toNat) (rd_T43 l i) [.slice Ai (rd_T43 l i).f0.length ci, .int .i64 (rd_T43 l i).f1, .int .i64 (rd_T43 l i).f2, .int .i64 (rd_T43 l i).f3, .int .i64 (rd_T43 l i).f4] (fun _ => True) (fun k => True ∧ k < w7.heap.size) rfl (by show Value.slice _ _ _ = _; simp) ?aP ?aK (fun _ _ => trivial) ?aO ?aB ?aS ?aL ?_; (case aP => exact k43_mkF _ _ (rd_T43 l i) HCI.out (Kd.F_alloc HF.out _)); (case aK => exact fun k hk => ⟨trivial, fun e => by have := Kd.N_base HN.out k e.symm; have := hk.2; omega⟩); (case aO => exact Kd.N_alloc HN.out _); (case aB => exact below_alloc HB.out _); (case aS => exact Nat.le_trans HB.out.size (by simp only [World.size_alloc]; omega)); (case aL => rw [apm_len]; omega); intro v1 w1 hN hb hg hat; have HN1 := Aside0.mk hN; have HB1 := Aside0.mk hb; clear hN hb hg hat))
            go_roundg (gk - 1)
            case measure => have := HG.out; omega
            case rel =>
              refine ⟨i + 1, v1, rfl, by go_num, by omega, by omega, ⟨by have := HG.out; omega⟩, ⟨?_⟩, HB1⟩
              rw [show (i + 1).toNat = i.toNat + 1 by omega]
              have e : apx l key raw ((i.toNat : Nat) : Int) = rd_T43 l i := by
                rw [Int.toNat_of_nonneg i0]
                exact apx_same (by first | exact .inl HIK.out | exact .inr HCR.out)
              simp only [apm]
              rw [e]
              exact HN1.out
          · have hrawb : decide (i < (raw.length : Int)) = false := decide_eq_false hraw
            have HRA : Aside0 (rawAt raw i = 0) := ⟨by unfold rawAt; rw [if_neg hraw]⟩
            go_wp2_with (((with_reducible refine gate_builtin (b := .append) (xs := #[.tmp 84, .tmp 86]) rfl ?_); at_builtin; refine Kd.N_append k43 (w0 := w7) w7.heap.size rfl (.tmp 84) (.tmp 86) 25 43 (.agg #[(.slice none 0 0), (.int .i64 0), (.int .i64 0), (.int .i64 0), (.int .i64 0)]) 56 rfl Try.underlying25 info43 rfl (by decide) (by decide) u10 (apm l key raw i.toNat) (rd_T43 l i) [.slice Ai (rd_T43 l i).f0.length ci, .int .i64 (rd_T43 l i).f1, .int .i64 (rd_T43 l i).f2, .int .i64 (rd_T43 l i).f3, .int .i64 (rd_T43 l i).f4] (fun _ => True) (fun k => True ∧ k < w7.heap.size) rfl (by show Value.slice _ _ _ = _; simp) ?aP ?aK (fun _ _ => trivial) ?aO ?aB ?aS ?aL ?_; (case aP => exact k43_mkF _ _ (rd_T43 l i) HCI.out (Kd.F_alloc HF.out _)); (case aK => exact fun k hk => ⟨trivial, fun e => by have := Kd.N_base HN.out k e.symm; have := hk.2; omega⟩); (case aO => exact Kd.N_alloc HN.out _); (case aB => exact below_alloc HB.out _); (case aS => exact Nat.le_trans HB.out.size (by simp only [World.size_alloc]; omega)); (case aL => rw [apm_len]; omega); intro v1 w1 hN hb hg hat; have HN1 := Aside0.mk hN; have HB1 := Aside0.mk hb; clear hN hb hg hat))
            go_roundg (gk - 1)
            case measure => have := HG.out; omega
            case rel =>
              refine ⟨i + 1, v1, rfl, by go_num, by omega, by omega, ⟨by have := HG.out; omega⟩, ⟨?_⟩, HB1⟩
              rw [show (i + 1).toNat = i.toNat + 1 by omega]
              have e : apx l key raw ((i.toNat : Nat) : Int) = rd_T43 l i := by
                rw [Int.toNat_of_nonneg i0]
                exact apx_same (by first | exact .inl HIK.out | exact .inr HCR.out)
              simp only [apm]
              rw [e]
              exact HN1.out
        | false =>
          rw [hy] at y1 HSAY
          have HCR : Aside0 (¬ Rch l key i) := ⟨fun h => by have := HSAY.out.2 h; cases this⟩
          clear hy
          by_cases hraw : i < (raw.length : Int)
          · have hrawb : decide (i < (raw.length : Int)) = true := decide_eq_true hraw
            obtain ⟨ad2, eA2, g2⟩ := Kd.at_int (Kd.C_alloc (Kd.C_below HRW7.out HB.out) (.cells #[.slice Ai (rd_T43 l i).f0.length ci, .int .i64 (rd_T43 l i).f1, .int .i64 (rd_T43 l i).f2, .int .i64 (rd_T43 l i).f3, .int .i64 (rd_T43 l i).f4] 43)) i i0 hraw
            subst eA2
            have HRA : Aside0 (rawAt raw i = rd raw i) := ⟨by unfold rawAt; rw [if_pos hraw]⟩
            cases hb4 : (bits .and .i64 (rd raw i) 4 == 4) with
            | false =>
              have HB4 := Aside0.mk hb4
              go_wp2_with (((with_reducible refine gate_builtin (b := .append) (xs := #[.tmp 84, .tmp 86]) rfl ?_); at_builtin; refine Kd.N_append k43 (w0 := w7) w7.heap.size rfl (.tmp 84) (.tmp 86) 25 43 (.agg #[(.slice none 0 0), (.int .i64 0), (.int .i64 0), (.int .i64 0), (.int .i64 0)]) 56 rfl Try.underlying25 info43 rfl (by decide) (by decide) u10 (apm l key raw i.toNat) ((⟨(rd_T43 l i).f0, (rd_T43 l i).f1, Int.tmod (bits .and .i64 (rd raw i) 3) 3, bits .and .i64 (rd raw i) 511, (rd_T43 l i).f4⟩ : S43)) [.slice Ai (rd_T43 l i).f0.length ci, .int .i64 (rd_T43 l i).f1, .int .i64 (Int.tmod (bits .and .i64 (rd raw i) 3) 3), .int .i64 (bits .and .i64 (rd raw i) 511), .int .i64 (rd_T43 l i).f4] (fun _ => True) (fun k => True ∧ k < w7.heap.size) rfl (by show Value.slice _ _ _ = _; simp) ?aP ?aK (fun _ _ => trivial) ?aO ?aB ?aS ?aL ?_; (case aP => exact k43_mkF _ _ (⟨(rd_T43 l i).f0, (rd_T43 l i).f1, Int.tmod (bits .and .i64 (rd raw i) 3) 3, bits .and .i64 (rd raw i) 511, (rd_T43 l i).f4⟩ : S43) HCI.out (Kd.F_alloc HF.out _)); (case aK => exact fun k hk => ⟨trivial, fun e => by have := Kd.N_base HN.out k e.symm; have := hk.2; omega⟩); (case aO => exact Kd.N_alloc HN.out _); (case aB => exact below_alloc HB.out _); (case aS => exact Nat.le_trans HB.out.size (by simp only [World.size_alloc]; omega)); (case aL => rw [apm_len]; omega); intro v1 w1 hN hb hg hat; have HN1 := Aside0.mk hN; have HB1 := Aside0.mk hb; clear hN hb hg hat))
              go_roundg (gk - 1)
              case measure => have := HG.out; omega
              case rel =>
                refine ⟨i + 1, v1, rfl, by go_num, by omega, by omega, ⟨by have := HG.out; omega⟩, ⟨?_⟩, HB1⟩
                rw [show (i + 1).toNat = i.toNat + 1 by omega]
                have e : apx l key raw ((i.toNat : Nat) : Int) = (⟨(rd_T43 l i).f0, (rd_T43 l i).f1, Int.tmod (bits .and .i64 (rd raw i) 3) 3, bits .and .i64 (rd raw i) 511, (rd_T43 l i).f4⟩ : S43) := by
                  rw [Int.toNat_of_nonneg i0]
                  exact by unfold apx chg; rw [if_pos ⟨HIK.out, HCR.out⟩, HRA.out, if_neg (by have := HB4.out; simpa using this)]
                simp only [apm]
                rw [e]
                exact HN1.out
            | true =>
              have HB4 := Aside0.mk hb4
              go_wp2_with (((with_reducible refine gate_builtin (b := .append) (xs := #[.tmp 84, .tmp 86]) rfl ?_); at_builtin; refine Kd.N_append k43 (w0 := w7) w7.heap.size rfl (.tmp 84) (.tmp 86) 25 43 (.agg #[(.slice none 0 0), (.int .i64 0), (.int .i64 0), (.int .i64 0), (.int .i64 0)]) 56 rfl Try.underlying25 info43 rfl (by decide) (by decide) u10 (apm l key raw i.toNat) ((⟨[i], (rd_T43 l i).f1, Int.tmod (bits .and .i64 (rd raw i) 3) 3, bits .and .i64 (rd raw i) 511, (rd_T43 l i).f4⟩ : S43)) [.slice (some ⟨wo.heap.size + 1, 0, none⟩) 1 1, .int .i64 (rd_T43 l i).f1, .int .i64 (Int.tmod (bits .and .i64 (rd raw i) 3) 3), .int .i64 (bits .and .i64 (rd raw i) 511), .int .i64 (rd_T43 l i).f4] (fun _ => True) (fun k => k = wo.heap.size + 1) rfl (by show Value.slice _ _ _ = _; simp) ?aP ?aK (fun _ _ => trivial) ?aO ?aB ?aS ?aL ?_; (case aP => exact k43_mkF _ _ (⟨[i], (rd_T43 l i).f1, Int.tmod (bits .and .i64 (rd raw i) 3) 3, bits .and .i64 (rd raw i) 511, (rd_T43 l i).f4⟩ : S43) (Nat.le_refl _) (by have := one_F (W := (wo.alloc (.cells #[.slice (some ⟨wo.heap.size + 1, 0, none⟩) 1 1, .int .i64 (rd_T43 l i).f1, .int .i64 (Int.tmod (bits .and .i64 (rd raw i) 3) 3), .int .i64 (bits .and .i64 (rd raw i) 511), .int .i64 (rd_T43 l i).f4] 43))) (i := i); rwa [World.size_alloc] at this)); (case aK => exact fun k hk => ⟨trivial, fun e => by have := Kd.N_lt HN.out k e.symm; omega⟩); (case aO => exact Kd.N_alloc (Kd.N_alloc HN.out _) _); (case aB => exact below_alloc (below_alloc HB.out _) _); (case aS => exact Nat.le_trans HB.out.size (by simp only [World.size_alloc]; omega)); (case aL => rw [apm_len]; omega); intro v1 w1 hN hb hg hat; have HN1 := Aside0.mk hN; have HB1 := Aside0.mk hb; clear hN hb hg hat))
              go_roundg (gk - 1)
              case measure => have := HG.out; omega
              case rel =>
                refine ⟨i + 1, v1, rfl, by go_num, by omega, by omega, ⟨by have := HG.out; omega⟩, ⟨?_⟩, HB1⟩
                rw [show (i + 1).toNat = i.toNat + 1 by omega]
                have e : apx l key raw ((i.toNat : Nat) : Int) = (⟨[i], (rd_T43 l i).f1, Int.tmod (bits .and .i64 (rd raw i) 3) 3, bits .and .i64 (rd raw i) 511, (rd_T43 l i).f4⟩ : S43) := by
                  rw [Int.toNat_of_nonneg i0]
                  exact by unfold apx chg; rw [if_pos ⟨HIK.out, HCR.out⟩, HRA.out, if_pos (by have := HB4.out; simpa using this)]
                simp only [apm]
                rw [e]
                exact HN1.out
          · have hrawb : decide (i < (raw.length : Int)) = false := decide_eq_false hraw
            have HRA : Aside0 (rawAt raw i = 0) := ⟨by unfold rawAt; rw [if_neg hraw]⟩
            have hb4 : (bits .and .i64 0 4 == 4) = false := by decide
            have HB4 := Aside0.mk hb4
            go_wp2_with (((with_reducible refine gate_builtin (b := .append) (xs := #[.tmp 84, .tmp 86]) rfl ?_); at_builtin; refine Kd.N_append k43 (w0 := w7) w7.heap.size rfl (.tmp 84) (.tmp 86) 25 43 (.agg #[(.slice none 0 0), (.int .i64 0), (.int .i64 0), (.int .i64 0), (.int .i64 0)]) 56 rfl Try.underlying25 info43 rfl (by decide) (by decide) u10 (apm l key raw i.toNat) ((⟨(rd_T43 l i).f0, (rd_T43 l i).f1, Int.tmod (bits .and .i64 0 3) 3, bits .and .i64 0 511, (rd_T43 l i).f4⟩ : S43)) [.slice Ai (rd_T43 l i).f0.length ci, .int .i64 (rd_T43 l i).f1, .int .i64 (Int.tmod (bits .and .i64 0 3) 3), .int .i64 (bits .and .i64 0 511), .int .i64 (rd_T43 l i).f4] (fun _ => True) (fun k => True ∧ k < w7.heap.size) rfl (by show Value.slice _ _ _ = _; simp) ?aP ?aK (fun _ _ => trivial) ?aO ?aB ?aS ?aL ?_; (case aP => exact k43_mkF _ _ (⟨(rd_T43 l i).f0, (rd_T43 l i).f1, Int.tmod (bits .and .i64 0 3) 3, bits .and .i64 0 511, (rd_T43 l i).f4⟩ : S43) HCI.out (Kd.F_alloc HF.out _)); (case aK => exact fun k hk => ⟨trivial, fun e => by have := Kd.N_base HN.out k e.symm; have := hk.2; omega⟩); (case aO => exact Kd.N_alloc HN.out _); (case aB => exact below_alloc HB.out _); (case aS => exact Nat.le_trans HB.out.size (by simp only [World.size_alloc]; omega)); (case aL => rw [apm_len]; omega); intro v1 w1 hN hb hg hat; have HN1 := Aside0.mk hN; have HB1 := Aside0.mk hb; clear hN hb hg hat))
            go_roundg (gk - 1)
            case measure => have := HG.out; omega
            case rel =>
              refine ⟨i + 1, v1, rfl, by go_num, by omega, by omega, ⟨by have := HG.out; omega⟩, ⟨?_⟩, HB1⟩
              rw [show (i + 1).toNat = i.toNat + 1 by omega]
              have e : apx l key raw ((i.toNat : Nat) : Int) = (⟨(rd_T43 l i).f0, (rd_T43 l i).f1, Int.tmod (bits .and .i64 0 3) 3, bits .and .i64 0 511, (rd_T43 l i).f4⟩ : S43) := by
                rw [Int.toNat_of_nonneg i0]
                exact by unfold apx chg; rw [if_pos ⟨HIK.out, HCR.out⟩, HRA.out, if_neg (by have := HB4.out; simpa using this)]
              simp only [apm]
              rw [e]
              exact HN1.out
    · have hlt' : decide (i < (l.length : Int)) = false := decide_eq_false hlt
      obtain rfl : i = (l.length : Int) := by omega
      have HM : Aside0 (Kd.N k43 43 wo w7.heap.size (fun _ => True) u10 (apm l key raw l.length)) := ⟨by simpa using HN.out⟩
      obtain ⟨Am, cm, em, hcm, hCm⟩ := Kd.N_reads HM.out
      subst em
      have HMC := Aside0.mk hcm
      have HMR := Aside0.mk hCm
      have HLo := Aside0.mk (Kd.C_below HL7.out HB.out)
      have HBW := Aside0.mk (below_then HB3.out HB3.out.size HB.out)
      clear hcm hCm
      have q1 : (fa == fa) = true := by cases fa <;> rfl
      have q2 : (fn == fn) = true := by simp
      go_wp2_with (first | ((go_at_call 13; (with_reducible refine (recipe_Fate.calls k4 _ _ l key fa fn _ HLo.out HC0.out A5.out).mono ?_); rintro e w8 ⟨rfl, hb⟩; have HB8 := Aside0.mk hb; clear hb)) | ((go_at_call 13; (with_reducible refine (recipe_Fate.calls k5 _ _ (apm l key raw l.length) key fa fn _ (Kd.C_below HMR.out HB8.out) HMC.out A6.out).mono ?_); rintro e w9 ⟨rfl, hb⟩; have HB9 := Aside0.mk hb; clear hb)))
      go_ret
      exact ⟨by simp, below_step (below_step HBW.out HB8.out) HB9.out⟩
theorem apart_calls (A0 : Option Addr) (c0 : Nat) (l : List S43) (key : Int) (A2 : Option Addr) (c2 : Nat) (raw : List Int) (w : World) (hr0 : Kd.C k43 w A0 l.length l) (hc0 : l.length ≤ c0)
    (hr2 : Kd.C (Kd.int .i64) w A2 raw.length raw) (hc2 : raw.length ≤ c2) : Calls Try.prog 7 #[.slice A0 l.length c0, .int .i64 key, .slice A2 raw.length c2] w fun e w' => e = .returned (.bool true) ∧ Below w.heap.size w w' := by
  by_cases h : rightN l = 0 ∧ 0 ≤ key ∧ key < (l.length : Int)
  · exact apart_in A0 c0 l key A2 c2 raw w hr0 hc0 hr2 hc2 h.1 h.2.1 h.2.2
  · exact apart_out A0 c0 l key A2 c2 raw w hr0 hc0 (by omega)
end Go.Proofs.Ytgahkloigbhgdaa.PR
