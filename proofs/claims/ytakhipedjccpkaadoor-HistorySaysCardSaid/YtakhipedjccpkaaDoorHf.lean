/- The closure in history.Linear: what its call comes to. Conditions: at most 12 events; their numbers and the state's are those of an int; the library's table stands. -/
import Derived.Test.YtakhipedjccpkaaDoorHe
import Derived.Test.YtakhipedjccpkaaDoorPHx1
import Derived.BigQuiet
import Derived.StillTailTactics
namespace Go.Proofs.YtakhipedjccpkaaDoor.PH
open Go.RowKit Go.Proofs.YtakhipedjccpkaaDoorW.PrintWords Go.Proofs.YtakhipedjccpkaaDoorW.PrintLast Go.Proofs.YtakhipedjccpkaaDoorW.PrintMore
open Go.Maps
set_option linter.unusedVariables false
set_option linter.unusedSimpArgs false

abbrev ptr (b : Nat) : Value := .pointer (some ⟨b, 0, none⟩)
theorem cell_of {w : World} {b : Nat} {v : Value} {t : TypeId} (h : w.heap[b]? = some (.cells #[v] t (0, 0))) : w.cell? ⟨b, 0, none⟩ = some v ∧ w.frozen? ⟨b, 0, none⟩ = false := ⟨(blk_cell h 0).trans rfl, blk_frozen h 0⟩
/-- What the closure captured, and what it leads to. -/
structure GW (n : Int) (l : List S33) (w0 : World) (A : Option Addr) (c bo bv bl bf bg bm : Nat) (w : World) : Prop where
  ho : w.heap[bo]? = some (.cells #[.int .i64 (overTo l l.length)] 3 (0, 0))
  hv : w.heap[bv]? = some (.cells #[.map (some bm)] 66 (0, 0))
  hl : w.heap[bl]? = some (.cells #[.slice A l.length c] 22 (0, 0))
  hf : w.heap[bf]? = some (.cells #[.func (.func (objFn n)) #[] #[]] 63 (0, 0))
  hg : w.heap[bg]? = some (.cells #[.func (.func 26) #[] #[ptr bo, ptr bv, ptr bl, ptr bf, ptr bg]] 67 (0, 0))
  rL : Kd.C k33 w0 A l.length l
  low : Below w0.heap.size w0 w
  hm : w0.heap.size ≤ bm
theorem GW.step {n : Int} {l : List S33} {w0 : World} {A : Option Addr} {c bo bv bl bf bg bm cnt : Nat} {w w' : World} {D : DataW Unit} (h : GW n l w0 A c bo bv bl bf bg bm w) (hD : w.ownsMap Tryd.prog 70 unitElem bm cnt D) (hg : w.grownBy w' (some bm)) : GW n l w0 A c bo bv bl bf bg bm w' := by
  obtain ⟨es, clock, hb, _⟩ := hD
  have ne : ∀ {b : Nat} {cs : Array Value} {t : TypeId} {z : Nat × Nat}, w.heap[b]? = some (.cells cs t z) → some b ≠ some bm := by
    intro b cs t z h1 h2; injection h2 with h2; subst h2; rw [hb] at h1; cases h1
  exact ⟨(hg.block _ (blk_lt h.ho) (ne h.ho)).trans h.ho, (hg.block _ (blk_lt h.hv) (ne h.hv)).trans h.hv, (hg.block _ (blk_lt h.hl) (ne h.hl)).trans h.hl, (hg.block _ (blk_lt h.hf) (ne h.hf)).trans h.hf, (hg.block _ (blk_lt h.hg) (ne h.hg)).trans h.hg, h.rL,
    h.low.grown hg h.low.size (by intro k hk; injection hk with hk; subst hk; exact h.hm), h.hm⟩
structure GPost (n : Int) (l : List S33) (bm : Nat) (k : Nat) (s : List Int) (D : DataW Unit) (cnt : Nat) (w : World) (e : Ending) (w' : World) : Prop where
  out : ∃ r D' cnt', e = .returned (.bool r) ∧ w'.ownsMap Tryd.prog 70 unitElem bm cnt' D' ∧ w.grownBy w' (some bm) ∧ cnt' ≤ cnt + tries (miss l k).length ∧ (r = true → Gs n l k s) ∧ (r = false → ¬ Gs n l k s ∧ Grew n l D D')
theorem and_done {k o : Nat} (hk : k < 4096) (ho : o < 4096) : bits .and .i64 (k : Int) (o : Int) = ((k &&& o : Nat) : Int) :=
  (bits_nat .i64 12 (by decide) (by intro n h0 h1; rw [IntKind.wrap_i64]; omega) k o hk ho).1
theorem or_put {k i : Nat} (hk : k < 4096) (hi : i < 12) : bits .or .i64 (k : Int) ((1 <<< i : Nat) : Int) = ((k ||| 1 <<< i : Nat) : Int) :=
  (bits_nat .i64 12 (by decide) (by intro n h0 h1; rw [IntKind.wrap_i64]; omega) k (1 <<< i) hk (by rw [Nat.one_shiftLeft]; exact Nat.pow_lt_pow_right (by decide) hi)).2

theorem gb_but {a c : World} (h : a.grownBy c none) (row : Option Nat) : a.grownBy c row := ⟨h.os, h.tape, h.output, h.size, fun i hi _ => h.block i hi (by simp)⟩
theorem missTo_le (l : List S33) (k : Nat) : ∀ {i N : Nat}, i ≤ N → (missTo l k i).length ≤ (missTo l k N).length := by
  intro i N h
  induction N with
  | zero => have : i = 0 := by omega
            subst this; exact Nat.le_refl _
  | succ N ih =>
    rcases Nat.lt_or_ge N i with h' | h'
    · have : i = N + 1 := by omega
      subst this; exact Nat.le_refl _
    · refine Nat.le_trans (ih h') ?_
      simp only [missTo]; split <;> simp
theorem rd79_eq (l : List S79) {i : Nat} (h : i < l.length) : rd_T79 l (i : Int) = l[i] := by
  unfold rd_T79; rw [Int.toNat_natCast, List.getD_eq_getElem?_getD, List.getElem?_eq_getElem h]; rfl
theorem rd79_at (l : List S79) {i : Nat} (h : i < l.length) : rd_T79 l (i : Int) ∈ l := by rw [rd79_eq l h]; exact List.getElem_mem h
theorem take79 (l : List S79) {i : Nat} (h : i < l.length) : l.take (i + 1) = l.take i ++ [rd_T79 l (i : Int)] := by
  rw [rd79_eq l h, List.take_succ_eq_append_getElem h]
theorem or_put' {k i : Nat} (hk : k < 4096) (hi : i < 12) : bits .or .i64 (k : Int) (wrap64 (2 ^ i)) = ((k ||| 1 <<< i : Nat) : Int) := by
  rw [← or_put hk hi]
  congr 1
  have h2 : 2 ^ i < 2 ^ 12 := Nat.pow_lt_pow_right (by decide) hi
  have h3 : ((2 : Int) ^ i) = ((2 ^ i : Nat) : Int) := by simp
  rw [h3, Nat.one_shiftLeft]
  generalize 2 ^ i = z at h2
  exact wrap_i64 (by unfold I64; omega)
theorem cost_step {c9 c3 r q t B : Nat} (hq : q < 2) (h9 : c9 ≤ c3 + t) (h : c3 + (r + (2 - q)) * t ≤ B) : c9 + (r + (2 - (q + 1))) * t ≤ B := by
  have e : r + (2 - q) = (r + (2 - (q + 1))) + 1 := by omega
  rw [e, Nat.add_mul, Nat.one_mul] at h; omega
theorem cost_call {c3 r q t B : Nat} (hq : q < 2) (h : c3 + (r + (2 - q)) * t ≤ B) : c3 + t ≤ B := by
  have e : r + (2 - q) = (r + (2 - (q + 1))) + 1 := by omega
  rw [e, Nat.add_mul, Nat.one_mul] at h; omega
theorem Vain1.snoc {n : Int} {l : List S33} {k j : Nat} {ws : List S79} {x : S79} (h : Vain1 n l k j ws) (hx : ((rd_T33 l (j : Int)).f5 = -1 ∨ x.f0 = (rd_T33 l (j : Int)).f6) → ¬ Gs n l (k ||| 1 <<< j) x.f1) : Vain1 n l k j (ws ++ [x]) := by
  intro y hy hc
  rcases List.mem_append.1 hy with hy | hy
  · exact h y hy hc
  · rw [List.mem_singleton.1 hy] at hc ⊢; exact hx hc
theorem s31_ext {a b : S31} (h0 : a.f0 = b.f0) (h1 : a.f1 = b.f1) : a = b := by cases a; cases b; simp at h0 h1; rw [h0, h1]
theorem zero71 (w : World) : (zeroValue 71).run Tryd.prog w = .ok (.agg #[]) w := by kernel_rfl
theorem wf_small {k : Nat} (h : k < 4096) : (Lit.int .i64 (k : Int)).wf = true := WalkArith.wf_i64 (by omega)
theorem txt_size {s : List Int} (h : ∀ x ∈ s, I64 x) (hl : s.length ≤ 5000) : (⟨(txt s).toArray⟩ : ByteArray).size ≤ maxLen := by
  have := txt_len h
  simp only [ByteArray.size, List.size_toArray]
  unfold maxLen; omega
set_option maxHeartbeats 8000000 in
set_option maxRecDepth 100000 in
theorem goes_done {n : Int} {l : List S33} {w0 : World} {A : Option Addr} {c bo bv bl bf bg bm : Nat} (hlen : l.length ≤ 12) (k : Nat) (s : List Int) (As : Option Addr) (cs : Nat) (D : DataW Unit) (cnt : Nat) (w : World)
    (hk : k < 4096) (hW : GW n l w0 A c bo bv bl bf bg bm w) (hD : w.ownsMap Tryd.prog 70 unitElem bm cnt D) (hd : ∀ e ∈ miss l k, e.f5 = -1) :
    Calls Tryd.prog 26 #[.int .i64 k, .slice As s.length cs, ptr bo, ptr bv, ptr bl, ptr bf, ptr bg] w fun e w' => GPost n l bm k s D cnt w e w' := by
  have hov := overTo_small l l.length hlen
  have hb : (bits .and .i64 (k : Int) (overTo l l.length : Int) == (overTo l l.length : Int)) = true := by rw [and_done hk hov, (over_done l k).2 hd]; simp
  have HW := Aside0.mk hW
  have HD := Aside0.mk hD
  obtain ⟨o1, o1'⟩ := cell_of hW.ho
  clear hW hD
  go_enter Tryd.func26, Tryd.ntmps26
  go_wp2
  go_ret
  exact ⟨true, D, cnt, rfl, HD.out, World.grownBy.refl _ _, by have := tries_pos (miss l k).length; omega, fun _ => .done hd, fun h => absurd h (by decide)⟩
set_option maxHeartbeats 8000000 in
set_option maxRecDepth 100000 in
theorem goes_calls {n : Int} {l : List S33} {w0 : World} {A : Option Addr} {c bo bv bl bf bg bm : Nat} (hlen : l.length ≤ 12) (hc : l.length ≤ c) (hnum : ∀ e ∈ l, I64 e.f2 ∧ I64 e.f3) (htab : Tab w0) : ∀ (m k : Nat) (s : List Int) (As : Option Addr) (cs : Nat) (D : DataW Unit) (cnt : Nat) (w : World),
    (miss l k).length = m → k < 4096 → Sok n m s → Kd.V (Kd.int .i64) 3 w 0 (fun b => b ≠ bm) (.slice As s.length cs) s → GW n l w0 A c bo bv bl bf bg bm w → w.ownsMap Tryd.prog 70 unitElem bm cnt D → cnt + tries m ≤ 20000000000000 → MemV n l D m →
    Calls Tryd.prog 26 #[.int .i64 k, .slice As s.length cs, ptr bo, ptr bv, ptr bl, ptr bf, ptr bg] w fun e w' => GPost n l bm k s D cnt w e w' := by
  intro m
  induction m with
  | zero =>
    intro k s As cs D cnt w hm hk hs hV hW hD hcnt hK
    exact goes_done hlen k s As cs D cnt w hk hW hD (by intro e he; rw [List.eq_nil_of_length_eq_zero hm] at he; cases he)
  | succ m ih =>
    intro k s As cs D cnt w hm hk hs hV hW hD hcnt hK
    by_cases hd : ∀ e ∈ miss l k, e.f5 = -1
    · exact goes_done hlen k s As cs D cnt w hk hW hD hd
    have HM := Aside0.mk hm
    have hml : (miss l k).length ≤ 12 := Nat.le_trans (missTo_len l k l.length) hlen
    clear hm
    have hov := overTo_small l l.length hlen
    have hb : (bits .and .i64 (k : Int) (overTo l l.length : Int) == (overTo l l.length : Int)) = false := by
      rw [and_done hk hov, beq_eq_false_iff_ne]
      intro h; exact hd ((over_done l k).1 (Int.ofNat.inj h))
    obtain ⟨kl, hkl⟩ := key70 (k : Int) ⟨(txt s).toArray⟩ (wf_small hk) (txt_size hs.num (by have := hs.short; omega))
    have HK := Aside0.mk hK
    have HN := Aside0.mk hd
    have HS := Aside0.mk hs
    have HV := Aside0.mk hV
    have HW := Aside0.mk hW
    have HD := Aside0.mk hD
    have HT := Aside0.mk htab
    have IH := Aside0.mk ih
    have HKL := Aside0.mk hkl
    have HNU := Aside0.mk hnum
    obtain ⟨o1, o1'⟩ := cell_of hW.ho
    obtain ⟨_, hVc, hVC⟩ := Kd.V_reads' hV
    have HVC := Aside0.mk hVC
    clear hVC hV hW hD hK hd hs htab ih hkl hnum
    cases hin : Maps.has D kl with
    | true =>
      go_enter Tryd.func26, Tryd.ntmps26
      go_wp2_with (first
        | (go_at_call 27; (with_reducible refine (text_calls As cs s _ HVC.out hVc HS.out.num (by have := HS.out.short; omega) (HT.out.below HW.out.low)).mono ?_); rintro e w1 ⟨rfl, hb1⟩; have HG1 := Aside0.mk (grown_of_below hb1 (some bm)); have HW1 := Aside0.mk (HW.out.step HD.out HG1.out); have HD1 := Aside0.mk (HD.out.kept (grown_of_below hb1 none) (by simp)); obtain ⟨v1, v1'⟩ := cell_of HW1.out.hv; have vb := blk_lt HW1.out.hv; clear hb1)
        | (at_lookup; refine wpList_lookup_own_unit _ rfl _ _ 66 rfl 70 71 law70 Tryd.underlying66 (zero71 _) bm cnt D rfl (HD1.out.alloc _) _ kl rfl HKL.out ?_))
      go_ret
      have hno : ¬ Gs n l k s := HK.out k s (Nat.le_of_eq HM.out) ⟨kl, HKL.out, hin⟩
      exact ⟨false, D, cnt, rfl, (HD1.out.alloc _).alloc _, (HG1.out.trans (World.grownBy_alloc _ _ _)).trans (World.grownBy_alloc _ _ _), by omega, fun h => absurd h (by decide), fun _ => ⟨hno, Grew.refl _ _ _⟩⟩
    | false =>
      go_enter Tryd.func26, Tryd.ntmps26
      go_wp2_with (first
        | (go_at_call 27; (with_reducible refine (text_calls As cs s _ HVC.out hVc HS.out.num (by have := HS.out.short; omega) (HT.out.below HW.out.low)).mono ?_); rintro e w1 ⟨rfl, hb1⟩; have HG1 := Aside0.mk (grown_of_below hb1 (some bm)); have HW1 := Aside0.mk (HW.out.step HD.out HG1.out); have HD1 := Aside0.mk (HD.out.kept (grown_of_below hb1 none) (by simp)); obtain ⟨v1, v1'⟩ := cell_of HW1.out.hv; have vb := blk_lt HW1.out.hv; obtain ⟨l1, l1'⟩ := cell_of ((((World.grownBy_alloc w1 (.cells #[.int .i64 k, .string ⟨(txt s).toArray⟩] 70) none).trans (World.grownBy_alloc _ (.cells #[] 71) none)).block bl (blk_lt HW1.out.hl) (by simp)).trans HW1.out.hl); clear hb1)
        | (at_lookup; refine wpList_lookup_own_unit _ rfl _ _ 66 rfl 70 71 law70 Tryd.underlying66 (zero71 _) bm cnt D rfl (HD1.out.alloc _) _ kl rfl HKL.out ?_)
        | (at_mapUpdate; refine wpList_mapUpdate_own _ rfl _ _ _ 66 rfl 70 71 law70 Tryd.underlying66 _ bm cnt D rfl ((HD1.out.alloc _).alloc _) (by unfold maxLen; omega) _ _ kl rfl rfl HKL.out _ [] unitElem_mk ?_; intro w2 hown2 hgrow2; have HD2 := Aside0.mk hown2; have HG2 := Aside0.mk (((HG1.out.trans (World.grownBy_alloc w1 (.cells #[.int .i64 k, .string ⟨(txt s).toArray⟩] 70) (some bm))).trans (World.grownBy_alloc _ (.cells #[] 71) (some bm))).trans hgrow2); have HW2 := Aside0.mk (HW.out.step HD.out HG2.out); obtain ⟨l2, l2'⟩ := cell_of HW2.out.hl; clear hown2 hgrow2 l1 l1'))
      clear v1 v1' vb l2 l2' o1 o1'
      go_loopg [39] (l.length + 1) (fun gk v39 wr => ∃ (i : Nat) (D2 : DataW Unit) (c2 : Nat), v39 = .int .i64 i ∧ i ≤ l.length ∧ l.length - i < gk ∧ Aside0 (wr.ownsMap Tryd.prog 70 unitElem bm c2 D2) ∧ Aside0 (w.grownBy wr (some bm)) ∧ Aside0 (c2 + 2 * ((miss l k).length - (missTo l k i).length) * tries m ≤ cnt + tries (m + 1)) ∧ Aside0 (Grew1 n l k s D D2) ∧ Aside0 (Vain n l k s i))
      case atStart =>
        refine ⟨0, _, cnt + 1, rfl, by omega, by omega, HD2, HG2, ⟨?_⟩, ⟨?_⟩, ⟨?_⟩⟩
        · simp only [missTo, List.length_nil, Nat.sub_zero, HM.out, tries]; omega
        · intro k' s' h
          rcases hasM_put HD.out.isMap HKL.out h with h | h
          · exact .inl h
          · exact .inr (.inl h)
        · intro j hj; omega
      case round =>
        clear HD2 HG2 HW2 HD1 HG1 HW1
        obtain ⟨i, D2, c2, rfl, i1, hg, HD2, HG2, HC2, HGr, HVa⟩ := hrel
        have HWr := Aside0.mk (HW.out.step HD.out HG2.out)
        by_cases hlt : i < l.length
        · have hlt' : decide ((i : Int) < (l.length : Int)) = true := decide_eq_true (by omega)
          obtain ⟨ad, e1, g0, g1, g2, g3, g4, g5, g6, g7⟩ := at_T33 (Kd.C_below HWr.out.rL HWr.out.low) (i : Int) (by omega) (by omega)
          subst e1
          rw [Int.toNat_natCast] at g0 g1 g2 g3 g4 g5 g6 g7
          obtain ⟨e, he⟩ : ∃ e, e = rd_T33 l (i : Int) := ⟨_, rfl⟩
          rw [← he] at g0 g1 g2 g3 g4 g5 g6 g7
          have HE := Aside0.mk he
          clear he
          go_upto_region 11 with (fail)
          obtain ⟨wb, hwb⟩ : ∃ wb, wb = wr.alloc (.cells #[.int .i64 e.f0, .int .i64 e.f1, .int .i64 e.f2, .int .i64 e.f3, .int .i64 e.f4, .int .i64 e.f5, .int .i64 e.f6.f0, .int .i64 e.f6.f1] 33) := ⟨_, rfl⟩
          have HBX : Aside0 (wb.heap[wr.heap.size]? = some (oS33 e)) := ⟨by rw [hwb]; exact blk_new wr _⟩
          have HGb : Aside0 (wr.grownBy wb none) := ⟨by rw [hwb]; exact World.grownBy_alloc _ _ _⟩
          have HNb : Aside0 (wr.heap.size ≠ bm) := ⟨by have := HD2.out.lt; omega⟩
          rw [← hwb]
          clear hwb g0 g1 g2 g3 g4 g5 g6 g7
          have HDb := Aside0.mk (HD2.out.kept HGb.out (by simp))
          have HGb2 := Aside0.mk (HG2.out.trans (gb_but HGb.out (some bm)))
          have HWb := Aside0.mk (HW.out.step HD.out HGb2.out)
          obtain ⟨l3, l3'⟩ := cell_of HWb.out.hl
          have hmf : ∀ (fn : Fn) (first cap : Array Value) (w : World), (Instr.makeFunc fn first cap).run Tryd.prog w = .ok (.func fn first cap) w := fun _ _ _ _ => rfl
          have hand := and1 k i hk
          cases hbit : k.testBit i with
          | true =>
            rw [hbit, if_pos rfl] at hand
            have hne : (bits BinOp.and IntKind.i64 (↑k / 2 ^ i) 1 == 1) = true := by rw [hand]; rfl
            go_wp2
            go_roundg (gk - 1)
            case measure => omega
            case rel =>
              refine ⟨i + 1, D2, c2, by go_num, by omega, by omega, HDb, HGb2, ⟨?_⟩, HGr, ⟨HVa.out.skip (.inl hbit)⟩⟩
              have := HC2.out
              rw [missTo, if_pos hbit]; exact this
          | false =>
            rw [hbit, if_neg (by decide)] at hand
            have hne : (bits BinOp.and IntKind.i64 (↑k / 2 ^ i) 1 == 1) = false := by rw [hand]; rfl
            cases hany : (miss l k).any fun y => aheadB y e with
            | true =>
              go_wp2_with (first
                | (go_at_call 31; (with_reducible refine (missing_calls (some ad) c l k _ (Kd.C_below HWb.out.rL HWb.out.low) hc hlen hk).mono ?_); rintro e3 w3 ⟨v3, rfl, hR3, hb3⟩; obtain ⟨A3, c3, e3'⟩ := Kd.R_slice hR3; subst e3'; have HR3 := Aside0.mk (Kd.R_reads' hR3).2.2; have HB3 := Aside0.mk hb3; have HBX3 := Aside0.mk (blk_below HBX.out hb3); clear hR3 hb3)
                | (go_at_call 30; (with_reducible refine (contains_calls _ _ (miss l k) wr.heap.size e _ HR3.out HBX3.out (by omega)).mono ?_); rw [hany]; rintro e4 w4 ⟨rfl, hb4⟩; have HB4 : Aside0 (Below wb.heap.size wb w4) := ⟨below_then HB3.out HB3.out.size hb4⟩; clear hb4))
              go_roundg (gk - 1)
              case measure => omega
              case rel =>
                refine ⟨i + 1, D2, c2, by go_num, by omega, by omega, ⟨HDb.out.kept (grown_of_below HB4.out none) (by simp)⟩, ⟨HGb2.out.trans (grown_of_below HB4.out (some bm))⟩, ⟨?_⟩, HGr, ⟨HVa.out.skip (.inr ?_)⟩⟩
                · refine Nat.le_trans (Nat.add_le_add_left (Nat.mul_le_mul_right _ (Nat.mul_le_mul_left _ ?_)) _) HC2.out
                  rw [missTo, if_neg (by rw [hbit]; decide), List.length_append]; omega
                · obtain ⟨y, y1, y2⟩ := List.any_eq_true.1 hany
                  exact ⟨y, y1, by rw [← HE.out]; exact y2⟩
            | false =>
              obtain ⟨fn, f1, f2, f3⟩ := obj_fn HS.out.is
              have HF1 := Aside0.mk f1
              have HF2 := Aside0.mk f2
              have HF3 := Aside0.mk f3
              clear f1 f2 f3
              go_wp2_with (first
                | (go_at_call 31; (with_reducible refine (missing_calls (some ad) c l k _ (Kd.C_below HWb.out.rL HWb.out.low) hc hlen hk).mono ?_); rintro e3 w3 ⟨v3, rfl, hR3, hb3⟩; obtain ⟨A3, c3, e3'⟩ := Kd.R_slice hR3; subst e3'; have HR3 := Aside0.mk (Kd.R_reads' hR3).2.2; have HB3 := Aside0.mk hb3; have HBX3 := Aside0.mk (blk_below HBX.out hb3); clear hR3 hb3)
                | (go_at_call 30; (with_reducible refine (contains_calls _ _ (miss l k) wr.heap.size e _ HR3.out HBX3.out (by omega)).mono ?_); rw [hany]; rintro e4 w4 ⟨rfl, hb4⟩; have HB4 : Aside0 (Below wb.heap.size wb w4) := ⟨below_then HB3.out HB3.out.size hb4⟩; have HG4 := Aside0.mk (HGb2.out.trans (grown_of_below HB4.out (some bm))); have HW4 := Aside0.mk (HW.out.step HD.out HG4.out); have HBX4 := Aside0.mk (blk_below HBX.out HB4.out); obtain ⟨q0, q1, q2, q3, q4, q5, q6, q7⟩ := cells_event HBX4.out; obtain ⟨qf, qf'⟩ := cell_of HW4.out.hf; have HV4 := Aside0.mk (Kd.V_grown HV.out HG4.out (fun b hb hh => hb (by injection hh))); have he := enters_ HF1.out HF2.out HF3.out #[.slice As s.length cs, .agg #[.int .i64 e.f0, .int .i64 e.f1, .int .i64 e.f2, .int .i64 e.f3, .int .i64 e.f4, .int .i64 e.f5, .int .i64 e.f6.f0, .int .i64 e.f6.f1]] w4; clear hb4))
              refine (obj_calls HS.out e (fun b => b ≠ bm) As cs _ HV4.out).mono ?_
              rintro e5 w5 ⟨v5, rfl, hN5, hb5⟩
              obtain ⟨A5, c5, e5'⟩ := Kd.N_slice hN5
              subst e5'
              have HN5 := Aside0.mk hN5
              have HB5 := Aside0.mk hb5
              clear hN5 hb5 he
              have hl4 := HD2.out.lt
              have HG5 := Aside0.mk (HG4.out.trans (grown_of_below HB5.out (some bm)))
              have HB45 : Aside0 (Below wb.heap.size wb w5) := ⟨below_then HB4.out HB4.out.size HB5.out⟩
              have HD5 := Aside0.mk (HDb.out.kept (grown_of_below HB45.out none) (by simp))
              have HX5 := Aside0.mk (blk_below HBX.out HB45.out)
              have hs4 : wb.heap.size ≤ w4.heap.size := HB4.out.size
              have hsb : wr.heap.size ≤ wb.heap.size := HGb.out.size
              have HN6 : Aside0 (Kd.N k79 79 w5 w4.heap.size (fun b => b ≠ bm) (.slice A5 (waysOf n s e).length c5) (waysOf n s e)) := ⟨Kd.N_mono HN5.out (fun b hb => by rcases hb with hb | hb; exact hb; omega)⟩
              obtain ⟨m', hm'⟩ : ∃ m', m' = m := ⟨_, rfl⟩
              clear q0 q1 q2 q3 q4 q5 q6 q7 qf qf' HV4 HB3 HBX3 HR3 HBX4 HW4 l3 l3' hs4 hsb hl4
              go_wp2
              obtain ⟨wo, rfl⟩ : ∃ wo : World, wo = wr := ⟨_, rfl⟩
              obtain ⟨go, rfl⟩ : ∃ go : Nat, go = gk := ⟨_, rfl⟩
              go_loopg [62] ((waysOf n s e).length + 1) (fun gj v62 wr2 => ∃ (q : Nat) (D3 : DataW Unit) (c3 : Nat), v62 = .int .i64 q ∧ q ≤ (waysOf n s e).length ∧ (waysOf n s e).length - q < gj ∧ Aside0 (wr2.ownsMap Tryd.prog 70 unitElem bm c3 D3) ∧ Aside0 (w.grownBy wr2 (some bm)) ∧ Aside0 (wr2.heap[wo.heap.size]? = some (oS33 e)) ∧
                Aside0 (Kd.N k79 79 wr2 w4.heap.size (fun b => b ≠ bm) (.slice A5 (waysOf n s e).length c5) (waysOf n s e)) ∧ Aside0 (c3 + (2 * ((miss l k).length - (missTo l k (i + 1)).length) + (2 - q)) * tries m ≤ cnt + tries (m + 1)) ∧ Aside0 (Grew1 n l k s D D3) ∧ Aside0 (Vain1 n l k i ((waysOf n s e).take q)))
              case atStart =>
                refine ⟨0, D2, c2, rfl, by omega, by omega, HD5, HG5, HX5, HN6, ⟨?_⟩, HGr, ⟨by intro x hx; simp at hx⟩⟩
                refine Nat.le_trans (Nat.add_le_add_left (Nat.mul_le_mul_right _ ?_) _) HC2.out
                have h1 : (missTo l k (i + 1)).length = (missTo l k i).length + 1 := by rw [missTo, if_neg (by rw [hbit]; decide)]; simp
                have h2 := missTo_le l k (show i + 1 ≤ l.length by omega)
                unfold miss at *
                omega
              case round =>
                clear HD5 HG5 HX5 HN6
                obtain ⟨q, D3, c3', rfl, hq1, hq2, HD6, HG6, HX6, HN6, HC6, HGr6, HVa6⟩ := hrel
                by_cases hqt : q < (waysOf n s e).length
                · have hqt' : decide ((q : Int) < ((waysOf n s e).length : Int)) = true := decide_eq_true (by omega)
                  obtain ⟨ad5, A2, cx, eA, x0, x1, x2, xl, xC⟩ := at_T79 (Kd.N_reads' HN6.out).2.2 (q : Int) (by omega) (by omega)
                  subst eA
                  obtain ⟨ce, hce, hMe, hcc⟩ := Kd.N_get HN6.out z79 (q : Int) (by omega) (by omega)
                  obtain ⟨ua, uc, rfl, ul, ge⟩ := k79_openF hMe
                  have hv2 := hcc 2 _ rfl
                  rw [add_field _ _ 2 (by omega)] at hv2
                  replace hv2 := Option.some.inj (hv2.symm.trans x2)
                  injection hv2 with hva hvn hvc
                  rw [hva] at ge
                  rw [hvc] at ul
                  have HVx : Aside0 (Kd.V (Kd.int .i64) 3 wr 0 (fun b => b ≠ bm) (.slice A2 (rd_T79 (waysOf n s e) (q : Int)).f1.length cx) (rd_T79 (waysOf n s e) (q : Int)).f1) := ⟨Kd.V_mono (Kd.V_mk ul ge) (fun b hb => hb.1)⟩
                  clear hva hvn hvc ge ul hcc hce xC xl hMe
                  rw [Int.toNat_natCast] at x0 x1 x2
                  have hmem : rd_T79 (waysOf n s e) (q : Int) ∈ waysOf n s e := rd79_at _ hqt
                  obtain ⟨x, hx⟩ : ∃ x, x = rd_T79 (waysOf n s e) (q : Int) := ⟨_, rfl⟩
                  rw [← hx] at x0 x1 x2 HVx hmem
                  have HXX := Aside0.mk hx
                  have HME := Aside0.mk hmem
                  clear hx hmem
                  obtain ⟨q0, q1, q2, q3, q4, q5, q6, q7⟩ := cells_event HX6.out
                  go_upto_region 16 with (fail)
                  obtain ⟨wx, hwx⟩ : ∃ wx, wx = wr.alloc (.cells #[.int .i64 x.f0.f0, .int .i64 x.f0.f1, .slice A2 x.f1.length cx] 79) := ⟨_, rfl⟩
                  have HYX : Aside0 (wx.heap[wr.heap.size]? = some (.cells #[.int .i64 x.f0.f0, .int .i64 x.f0.f1, .slice A2 x.f1.length cx] 79 (0, 0))) := ⟨by rw [hwx]; exact blk_new wr _⟩
                  have HGx : Aside0 (wr.grownBy wx none) := ⟨by rw [hwx]; exact World.grownBy_alloc _ _ _⟩
                  rw [← hwx]
                  clear hwx q0 q1 q2 q3 q4 q5 q6 q7 x0 x1 x2
                  have HDx := Aside0.mk (HD6.out.kept HGx.out (by simp))
                  have HGx2 := Aside0.mk (HG6.out.trans (gb_but HGx.out (some bm)))
                  have HWx := Aside0.mk (HW.out.step HD.out HGx2.out)
                  have HXx := Aside0.mk ((HGx.out.block _ (blk_lt HX6.out) (by simp)).trans HX6.out)
                  have HNx := Aside0.mk (Kd.N_grown HN6.out HGx.out (fun _ _ => by simp))
                  have HVx2 := Aside0.mk (Kd.V_grown HVx.out HGx.out (fun _ _ => by simp))
                  obtain ⟨q0, q1, q2, q3, q4, q5, q6, q7⟩ := cells_event HXx.out
                  have y0 : wx.cell? ⟨wr.heap.size, 0, none⟩ = some (.int .i64 x.f0.f0) := (blk_cell HYX.out 0).trans rfl
                  have y1 : wx.cell? ⟨wr.heap.size, 1, none⟩ = some (.int .i64 x.f0.f1) := (blk_cell HYX.out 1).trans rfl
                  have y2 : wx.cell? ⟨wr.heap.size, 2, none⟩ = some (.slice A2 x.f1.length cx) := (blk_cell HYX.out 2).trans rfl
                  obtain ⟨z1, z1'⟩ := cell_of HWx.out.hg
                  have hq2 : q < 2 := Nat.lt_of_lt_of_le hqt (ways_few n s e)
                  have hWI := HNU.out _ (rd33_at l hlt)
                  rw [← HE.out] at hWI
                  have hless := Aside0.mk (miss_less hbit hlt)
                  have HCALL : Aside0 (Calls Tryd.prog 26 #[.int .i64 (bits .or .i64 (k : Int) (wrap64 (2 ^ i))), .slice A2 x.f1.length cx, ptr bo, ptr bv, ptr bl, ptr bf, ptr bg] wx.drew fun z w' => GPost n l bm (k ||| 1 <<< i) x.f1 D3 c3' wx.drew z w') := ⟨by
                    rw [or_put' hk (by omega)]
                    refine IH.out (k ||| 1 <<< i) x.f1 A2 cx D3 c3' wx.drew (by have := HM.out; have := hless.out; omega) (put_small hk (by omega)) (HS.out.next hWI.1 hWI.2 HME.out) (Kd.V_drew HVx2.out) ?_ HDx.out.drew (Nat.le_trans (cost_call hq2 HC6.out) hcnt) (HGr6.out.kept HK.out HM.out)
                    exact HWx.out.step HDx.out (grown_of_below (below_drew (Below.refl _ _)) _)⟩
                  have HTRUE : Aside0 (∀ (D9 : DataW Unit) (c9 : Nat) (w9 : World), ((rd_T33 l (i : Int)).f5 = -1 ∨ x.f0 = (rd_T33 l (i : Int)).f6) → w9.ownsMap Tryd.prog 70 unitElem bm c9 D9 → wx.drew.grownBy w9 (some bm) → c9 ≤ c3' + tries (miss l (k ||| 1 <<< i)).length → Gs n l (k ||| 1 <<< i) x.f1 → GPost n l bm k s D cnt w (.returned (.bool true)) w9) := ⟨by
                    intro D9 c9 w9 hcond h1 h2 h3 h4
                    have hG9 := (HGx2.out.trans (grown_of_below (below_drew (Below.refl _ wx)) _)).trans h2
                    have ht := cost_call hq2 HC6.out
                    have e9 : (miss l (k ||| 1 <<< i)).length = m := by have := HM.out; have := hless.out; omega
                    rw [e9] at h3
                    refine ⟨true, D9, c9, rfl, h1, hG9, by rw [HM.out]; omega, fun _ => .step i x hlt hbit ?_ (by rw [← HE.out]; exact HME.out) hcond h4, fun h => absurd h (by decide)⟩
                    intro y hy
                    rw [List.any_eq_false] at hany
                    have := hany y hy
                    rw [← HE.out]; simpa using this⟩
                  have HFALSE : Aside0 (∀ (D9 : DataW Unit) (c9 : Nat) (w9 : World), w9.ownsMap Tryd.prog 70 unitElem bm c9 D9 → wx.drew.grownBy w9 (some bm) → c9 ≤ c3' + tries (miss l (k ||| 1 <<< i)).length → ¬ Gs n l (k ||| 1 <<< i) x.f1 → Grew n l D3 D9 →
                      Aside0 (w.grownBy w9 (some bm)) ∧ Aside0 (w9.heap[wo.heap.size]? = some (oS33 e)) ∧ Aside0 (Kd.N k79 79 w9 w4.heap.size (fun b => b ≠ bm) (.slice (some ad5) (waysOf n s e).length c5) (waysOf n s e)) ∧ Aside0 (c9 + (2 * ((miss l k).length - (missTo l k (i + 1)).length) + (2 - (q + 1))) * tries m ≤ cnt + tries (m + 1)) ∧ Aside0 (Grew1 n l k s D D9) ∧ Aside0 (Vain1 n l k i ((waysOf n s e).take (q + 1)))) := ⟨by
                    intro D9 c9 w9 h1 h2 h3 h4 h5
                    have hd9 := grown_of_below (below_drew (Below.refl _ wx)) (some bm)
                    have e9 : (miss l (k ||| 1 <<< i)).length = m := by have := HM.out; have := hless.out; omega
                    rw [e9] at h3
                    refine ⟨⟨(HGx2.out.trans hd9).trans h2⟩, ⟨(h2.block _ (blk_lt HXx.out) (by intro h; injection h with h; exact HNb.out h)).trans HXx.out⟩, ⟨Kd.N_grown (Kd.N_drew HNx.out) h2 (fun b hb h => hb (by injection h))⟩, ⟨cost_step hq2 h3 HC6.out⟩, ⟨HGr6.out.then h5⟩, ⟨?_⟩⟩
                    rw [take79 _ hqt, ← HXX.out]
                    exact HVa6.out.snoc (fun _ => h4)⟩
                  by_cases hA : e.f5 = -1
                  · have hA' : (e.f5 == -1) = true := by rw [hA]; rfl
                    have HA := Aside0.mk hA
                    clear hA
                    go_still_tail 18, (by kernel_rfl)
                    change wpList _ _ _ _ _ wx.drew
                    go_wp2_with fail
                    refine HCALL.out.mono ?_
                    clear HCALL
                    rintro z w9 ⟨⟨r, D9, c9, rfl, h1, h2, h3, h4, h5⟩⟩
                    cases r with
                    | true =>
                      have HP := Aside0.mk (HTRUE.out D9 c9 w9 (.inl (by rw [← HE.out]; exact HA.out)) h1 h2 h3 (h4 rfl))
                      clear h1 h2 h3 h4 h5 HTRUE HFALSE
                      go_wp2
                      go_ret
                      exact HP.out
                    | false =>
                      obtain ⟨a1, a2, a3, a4, a5, a6⟩ := HFALSE.out D9 c9 w9 h1 h2 h3 (h5 rfl).1 (h5 rfl).2
                      have a0 := Aside0.mk h1
                      clear h1 h2 h3 h4 h5 HTRUE HFALSE
                      go_wp2
                      go_roundg (gk - 1)
                      case measure => omega
                      case rel => exact ⟨q + 1, D9, c9, by go_num, by omega, by omega, a0, a1, a2, a3, a4, a5, a6⟩
                  · have hA' : (e.f5 == -1) = false := by rw [beq_eq_false_iff_ne]; exact hA
                    cases hB : (x.f0.f0 == e.f6.f0 && x.f0.f1 == e.f6.f1) with
                    | true =>
                      have hx6 : x.f0 = e.f6 := by
                        simp only [Bool.and_eq_true, beq_iff_eq] at hB
                        exact s31_ext hB.1 hB.2
                      have HX6' := Aside0.mk hx6
                      have heq : ∀ (d : Nat) (w : World), (Op.equalIn (d + 2) 31 (.agg #[.int .i64 x.f0.f0, .int .i64 x.f0.f1]) (.agg #[.int .i64 e.f6.f0, .int .i64 e.f6.f1])).run Tryd.prog w = .ok true w := fun d w => by rw [eqA31, hB]
                      clear hx6 hB
                      go_still_tail 18, (by kernel_rfl)
                      change wpList _ _ _ _ _ wx.drew
                      go_wp2_with fail
                      refine HCALL.out.mono ?_
                      clear HCALL
                      rintro z w9 ⟨⟨r, D9, c9, rfl, h1, h2, h3, h4, h5⟩⟩
                      cases r with
                      | true =>
                        have HP := Aside0.mk (HTRUE.out D9 c9 w9 (.inr (by rw [← HE.out]; exact HX6'.out)) h1 h2 h3 (h4 rfl))
                        clear h1 h2 h3 h4 h5 HTRUE HFALSE
                        go_wp2
                        go_ret
                        exact HP.out
                      | false =>
                        obtain ⟨a1, a2, a3, a4, a5, a6⟩ := HFALSE.out D9 c9 w9 h1 h2 h3 (h5 rfl).1 (h5 rfl).2
                        have a0 := Aside0.mk h1
                        clear h1 h2 h3 h4 h5 HTRUE HFALSE
                        go_wp2
                        go_roundg (gk - 1)
                        case measure => omega
                        case rel => exact ⟨q + 1, D9, c9, by go_num, by omega, by omega, a0, a1, a2, a3, a4, a5, a6⟩
                    | false =>
                      have hno : ¬ ((rd_T33 l (i : Int)).f5 = -1 ∨ x.f0 = (rd_T33 l (i : Int)).f6) := by
                        rw [← HE.out]
                        rintro (h | h)
                        · exact hA h
                        · rw [h] at hB; simp at hB
                      have HNO := Aside0.mk hno
                      have heq : ∀ (d : Nat) (w : World), (Op.equalIn (d + 2) 31 (.agg #[.int .i64 x.f0.f0, .int .i64 x.f0.f1]) (.agg #[.int .i64 e.f6.f0, .int .i64 e.f6.f1])).run Tryd.prog w = .ok false w := fun d w => by rw [eqA31, hB]
                      clear hno HCALL HTRUE HFALSE hB
                      go_quiet (fail)
                      have hdN := grown_of_below (pw_below_drewN (Below.refl wx.heap.size wx) nq) none
                      have b0 : Aside0 ((wx.drewN nq).ownsMap Tryd.prog 70 unitElem bm c3' D3) := ⟨HDx.out.kept hdN (by simp)⟩
                      have b1 : Aside0 (w.grownBy (wx.drewN nq) (some bm)) := ⟨HGx2.out.trans (gb_but hdN _)⟩
                      have b2 : Aside0 ((wx.drewN nq).heap[wo.heap.size]? = some (oS33 e)) := ⟨(hdN.block _ (blk_lt HXx.out) (by simp)).trans HXx.out⟩
                      have b3 := Aside0.mk (Kd.N_drewN HNx.out nq)
                      have b4 : Aside0 (c3' + (2 * ((miss l k).length - (missTo l k (i + 1)).length) + (2 - (q + 1))) * tries m ≤ cnt + tries (m + 1)) := ⟨cost_step hq2 (by omega) HC6.out⟩
                      have b5 : Aside0 (Vain1 n l k i ((waysOf n s e).take (q + 1))) := ⟨by rw [take79 _ hqt, ← HXX.out]; exact HVa6.out.snoc (fun h => absurd h HNO.out)⟩
                      clear hdN
                      go_wp2
                      go_roundg (gk - 1)
                      case measure => omega
                      case rel => exact ⟨q + 1, D3, c3', by go_num, by omega, by omega, b0, b1, b2, b3, b4, HGr6, b5⟩
                · have hqt' : decide ((q : Int) < ((waysOf n s e).length : Int)) = false := decide_eq_false (by omega)
                  obtain rfl : q = (waysOf n s e).length := by omega
                  go_wp2
                  go_roundg (go - 1)
                  case measure => omega
                  case rel =>
                    refine ⟨i + 1, D3, c3', by go_num, by omega, by omega, HD6, HG6, ⟨?_⟩, HGr6, ⟨HVa.out.more ?_⟩⟩
                    · exact Nat.le_trans (Nat.add_le_add_left (Nat.mul_le_mul_right _ (Nat.le_add_right _ _)) _) HC6.out
                    · have := HVa6.out
                      rw [List.take_length] at this
                      rw [← HE.out]; exact this
        · have hlt' : decide ((i : Int) < (l.length : Int)) = false := decide_eq_false (by omega)
          obtain rfl : i = l.length := by omega
          go_wp2
          go_ret
          have hno := HVa.out.all HN.out
          exact ⟨false, D2, c2, rfl, HD2.out, HG2.out, by rw [HM.out]; have := HC2.out; omega, fun h => absurd h (by decide), fun _ => ⟨hno, HGr.out.end_ hno⟩⟩
end Go.Proofs.YtakhipedjccpkaaDoor.PH
