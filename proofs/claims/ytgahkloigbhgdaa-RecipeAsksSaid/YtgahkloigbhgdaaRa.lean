/- recipe.reaches: what it answers. Conditions: the recipes' needs are keys. -/
import Derived.Test.YtgahkloigbhgdaaRs
import Derived.Maps.OwnSet
import Derived.Maps.RangeWalk
import Derived.LoopN
namespace Go.Proofs.Ytgahkloigbhgdaa.PR
open Go.RowKit Go.Proofs.YtgahkloigbhgdaaW.PrintWords Go.Proofs.YtgahkloigbhgdaaW.PrintLast Go.Proofs.YtgahkloigbhgdaaW.PrintMore
open Go.Maps
set_option linter.unusedVariables false
set_option linter.unusedSimpArgs false

open Classical in
noncomputable def recipe_reaches.f (l0 : List (S43)) (a1 : Int) : Option (Bool) := if Vld l0 ∧ 0 ≤ a1 ∧ a1 < (l0.length : Int) then some (decide (Rch l0 a1 a1)) else none

theorem law3 : Keyed Try.prog 3 := int_keyed Try.underlying3
def hasI (D : DataW Unit) (m : Int) : Prop := Maps.has D (.int .i64 m) = true

theorem made_bools {w W : World} {v : Value} {n : Nat} (h : Kd.bool.R 4 w W.heap.size (fun _ => True) v (List.replicate ((n : Int)).toNat false)) (hn : 0 < n) :
    ∃ g cap, v = .slice (some ⟨g, 0, none⟩) n cap ∧ W.heap.size ≤ g ∧ Kd.bool.R 4 w W.heap.size (fun _ => True) v (List.replicate n false) := by
  simp only [Int.toNat_natCast] at h
  obtain ⟨g, cap, e, hg, _⟩ := Kd.R_form h (by simpa using hn)
  simp only [List.length_replicate] at e
  exact ⟨g, cap, e, hg, h⟩
theorem map_ne_row {w : World} {b c g cap n : Nat} {D : DataW Unit} {base : Nat} {M : List Bool} (h : w.ownsMap Try.prog 3 unitElem b c D) (hr : Kd.bool.R 4 w base (fun _ => True) (.slice (some ⟨g, 0, none⟩) n cap) M) : b ≠ g := by
  obtain ⟨es, clock, hb, _⟩ := h
  obtain ⟨cells, hg⟩ := Kd.R_typed hr g rfl
  intro e; subst e; rw [hb] at hg; cases hg
theorem hasI_put {D : DataW Unit} (hD : IsMap D) (x : Int) (m : Int) : hasI (D.put (.int .i64 x) (.agg [])) m ↔ m = x ∨ hasI D m := by
  unfold hasI
  by_cases e : m = x
  · subst e; have := has_put_same (k := .int .i64 m) hD (by trivial) (.agg []); simp [this]
  · rw [has_put_other (by intro h; injection h with _ h; exact e h)]; simp [e]
theorem hasI_del {D : DataW Unit} (x : Int) (m : Int) : hasI (D.del (.int .i64 x)) m ↔ m ≠ x ∧ hasI D m := by
  unfold hasI
  by_cases e : m = x
  · subst e; simp [has_del_same]
  · rw [has_del_other (by intro h; injection h with _ h; exact e h)]; simp [e]
theorem hasI_none {D : DataW Unit} (hD : IsMap D) (h : Maps.size D = 0) (m : Int) : ¬ hasI D m := by
  obtain ⟨es, rfl⟩ := hD
  simp only [size_eq, List.length_eq_zero_iff] at h
  subst h
  simp [hasI, has_eq]

set_option maxHeartbeats 1000000 in
set_option maxRecDepth 100000 in
theorem recipe_reaches.calls (A0 : Option Addr) (c0 : Nat) (l0 : List (S43)) (a1 : Int) (r : Bool) (w : World) (hr0 : Kd.C k43 w A0 l0.length l0) (hc0 : l0.length ≤ c0) (h : recipe_reaches.f l0 a1 = some r) :
    Calls Try.prog 27 #[.slice A0 l0.length c0, .int .i64 a1] w fun e w' => e = .returned (.bool r) ∧ Below w.heap.size w w' := by
  unfold recipe_reaches.f at h
  split at h
  case isFalse => cases h
  rename_i hv
  obtain ⟨hv, ha0, ha1⟩ := hv
  have Hr := Aside0.mk (Option.some.inj h)
  clear h
  have HV := Aside0.mk hv
  have hlen : l0.length ≤ 100 := hv.1
  clear hv
  obtain ⟨ad, hA⟩ : ∃ ad, A0 = some ad := by obtain ⟨ad, _, _, e, _⟩ := at_T43 hr0 a1 ha0 ha1; exact ⟨ad, e⟩
  subst hA
  have HR0 := Aside0.mk hr0
  have HC0 := Aside0.mk hc0
  clear hr0 hc0
  have hmm := @run_makeMap Try.prog
  go_enter Try.func27, Try.ntmps27
  go_wp2_with (first
    | ((with_reducible refine gate_dst (N := 12) rfl ?_); refine Kd.R_make Kd.bool _ 4 rfl (N := 12) rfl 41 _ _ rfl (l0.length : Int) rfl rfl Try.underlying41 (.bool false) 1 info4 rfl (by decide) (by omega) false (ok := fun _ => True) (okp := fun _ => True) rfl (fun _ hk => hk) trivial (by omega) (by omega) (Below.refl _ _) (Nat.le_refl _) ?_; intro v110 w7 ho8 hb hg_ hnew_; clear hg_ hnew_; obtain ⟨g, cap, ev, hgw, ho9⟩ := made_bools ho8 (by omega); subst ev; have HO := Aside0.mk ho9; have HB1 := Aside0.mk hb; have hw7 := hb.size; clear ho8 ho9 hb))
  clear hmm
  go_loopg [7] (2 * l0.length + 1) (fun gk v7 wr => ∃ (k : Int) (M : List Bool) (D : DataW Unit) (c : Nat), v7 = .int .i64 k ∧ Aside0 (RI l0 a1 k M (hasI D) 0) ∧ Aside0 (c + unm M ≤ l0.length) ∧ Aside0 (Maps.size D + unm M < gk) ∧
    Aside0 (Kd.R Kd.bool 4 wr w.heap.size (fun _ => True) (.slice (some ⟨g, 0, none⟩) l0.length cap) M) ∧ Aside0 (wr.ownsMap Try.prog 3 unitElem w7.heap.size c D) ∧ Aside0 (Below w.heap.size w wr))
  case atStart =>
    refine ⟨a1, List.replicate l0.length false, .map [], 0, rfl, ⟨RI.start ha0 ha1 (hasI_none ⟨_, rfl⟩ rfl)⟩, ⟨?_⟩, ⟨?_⟩, ⟨Kd.R_alloc HO.out _⟩, ⟨World.ownsMap_made _ _ _ _⟩, ⟨below_alloc HB1.out _⟩⟩
    · have := unm_le (List.replicate l0.length false); simpa using this
    · have := unm_le (List.replicate l0.length false); simp [Maps.size] at this ⊢; omega
  case round =>
    obtain ⟨k, M, D, c, rfl, HI, HC, HM, HO1, HD, HB2⟩ := hrel
    clear HO HB1
    have k0 := HI.out.k0
    have k1 := HI.out.k1
    obtain ⟨wo, rfl⟩ : ∃ wo : World, wo = wr := ⟨_, rfl⟩
    obtain ⟨go, rfl⟩ : ∃ go : Nat, go = gk := ⟨_, rfl⟩
    obtain ⟨ad1, A1, c1, e1, g0, _, _, _, _, gl, gC⟩ := at_T43 HR0.out k k0 k1
    cases e1
    have g1 := pw_cell_below HB2.out g0
    have GC : Aside0 ((Kd.int .i64).C w A1 (nds l0 k).length (nds l0 k)) := Aside0.mk gC
    clear gC gl g0
    go_wp2
    clear g1
    go_loopg [21] ((nds l0 k).length + 1) (fun gj v21 wr2 => ∃ (i : Int) (M2 : List Bool) (D2 : DataW Unit) (c2 : Nat), v21 = .int .i64 i ∧ 0 ≤ i ∧ i ≤ ((nds l0 k).length : Int) ∧ Aside0 (RI l0 a1 k M2 (hasI D2) i) ∧ Aside0 (c2 + unm M2 ≤ l0.length) ∧ Aside0 (Maps.size D2 + unm M2 < go) ∧ Aside0 ((nds l0 k).length - i.toNat < gj) ∧
      Aside0 (Kd.R Kd.bool 4 wr2 w.heap.size (fun _ => True) (.slice (some ⟨g, 0, none⟩) l0.length cap) M2) ∧ Aside0 (wr2.ownsMap Try.prog 3 unitElem w7.heap.size c2 D2) ∧ Aside0 (Below w.heap.size w wr2))
    case atStart => exact ⟨0, M, D, c, rfl, by omega, by omega, HI, HC, HM, ⟨by omega⟩, HO1, HD, HB2⟩
    case round =>
      obtain ⟨i, M2, D2, c2, rfl, i0, i1, HI2, HC2, HM2, HG, HO2, HD2, HB3⟩ := hrel
      have hn20 : (nds l0 k).length ≤ 20 := HV.out.each k k0 k1
      by_cases hlt : i < ((nds l0 k).length : Int)
      · obtain ⟨m0, m1⟩ := HV.out.keys k k0 k1 i i0 hlt
        obtain ⟨ad2, e2, g2⟩ := Kd.at_int (Kd.C_below GC.out HB3.out) i i0 hlt
        cases e2
        have G2 : wr.cell? (ad2.add i.toNat) = some (.int .i64 (rd (nds l0 k) i)) := g2
        clear g2
        obtain ⟨g3, g3'⟩ := Kd.R_celln (d := false) HO2.out (rd (nds l0 k) i) m0 m1
        obtain ⟨x, hx⟩ : ∃ x, x = rd (nds l0 k) i := ⟨_, rfl⟩
        rw [← hx] at G2 g3 g3' m0 m1
        have HX := Aside0.mk hx
        clear hx
        have hlt' : decide (i < ((rd_T43 l0 k).f0.length : Int)) = true := decide_eq_true hlt
        by_cases hm : rdOf false M2 x = true
        · rw [hm] at g3
          go_wp2
          go_roundg (gk - 1)
          case measure => have := HG.out; omega
          case rel => exact ⟨i + 1, M2, D2, c2, by go_num, by omega, by omega, ⟨HI2.out.skip (by rw [← HX.out]; exact hm)⟩, HC2, HM2, ⟨by have := HG.out; omega⟩, HO2, HD2, HB3⟩
        · simp only [Bool.not_eq_true] at hm
          rw [hm] at g3
          have hne := map_ne_row HD2.out HO2.out
          have hc2 : c2 ≤ 100 := by have := HC2.out; omega
          go_wp2_with (first
            | (at_mapUpdate; refine wpList_mapUpdate_own _ rfl _ _ _ 62 rfl 3 63 law3 Try.underlying62 _ w7.heap.size c2 _ rfl (World.ownsMap.setCell HD2.out (by first | exact hne | simpa using hne) _) (by unfold maxLen; omega) _ _ _ rfl rfl (keyOf_int_mk Try.underlying3 (by exact WalkArith.wf_i64 (by omega))) _ [] unitElem_mk ?_; intro w8 hown8 hgrow8))
          have hu : unm (M2.set x.toNat true) + 1 = unm M2 := unm_set (by rw [HI2.out.len]; omega) (by have := hm; unfold rdOf at this; exact this)
          have hs := size_put (HD2.out.tidy law3) (k := .int .i64 x) (.agg [])
          have hp := Kd.R_putn (h1 := fun _ => rfl) HO2.out x true
          have hb4 := below_set (j := x.toNat) (v := .bool true) HB3.out hgw
          go_roundg (gk - 1)
          case measure => have := HG.out; omega
          case rel =>
            refine ⟨i + 1, M2.set x.toNat true, D2.put (.int .i64 x) (.agg []), c2 + 1, by go_num, by omega, by omega, ⟨?_⟩, ⟨by have := HC2.out; omega⟩, ⟨?_⟩, ⟨by have := HG.out; omega⟩, ⟨?_⟩, ⟨hown8⟩, ⟨?_⟩⟩
            · have := HI2.out.mark HV.out (T' := hasI (D2.put (.int .i64 x) (.agg []))) i0 hlt (fun m => by rw [hasI_put HD2.out.isMap, ← HX.out])
              rw [← HX.out] at this; exact this
            · have := HM2.out; split at hs <;> omega
            · exact Kd.R_grown2 hp rfl hgrow8 (fun k hk => by injection hk with hk; subst hk; simpa [Value.ownBlock] using hne)
            · exact hb4.grown hgrow8 hb4.size (by intro k hk; injection hk with hk; subst hk; exact hw7)
      · have hlt' : decide (i < ((rd_T43 l0 k).f0.length : Int)) = false := decide_eq_false hlt
        obtain ⟨g3, g3'⟩ := Kd.R_celln (d := false) HO2.out a1 ha0 ha1
        by_cases hz : Maps.size D2 = 0
        · have hz' := Aside0.mk hz
          clear hz
          go_wp2_with (first
            | (at_len; refine wpList_len_own _ rfl _ 62 rfl 3 63 Try.underlying62 _ w7.heap.size c2 D2 rfl HD2.out ?_; rw [hz'.out]))
          have hrr : rdOf false M2 a1 = r := by
            have := HI2.out.done HV.out (by omega) (hasI_none HD2.out.isMap hz'.out) ha0 ha1
            rw [← Hr.out, Bool.eq_iff_iff, this]; simp
          go_ret
          exact ⟨by rw [hrr]; rfl, HB3.out⟩
        · have hz' := Aside0.mk hz
          have hzz : ((Maps.size D2 : Int) == 0) = false := by simp; omega
          clear hz
          go_wp2_with (first
            | (at_len; refine wpList_len_own _ rfl _ 62 rfl 3 63 Try.underlying62 _ w7.heap.size c2 D2 rfl HD2.out ?_)
            | (at_range; refine wpList_range_own _ rfl _ 62 rfl 3 63 law3 Try.underlying62 _ w7.heap.size c2 _ rfl HD2.out ?_; intro w9 hrg0 hg0 hs0))
          clear g3 g3'
          refine wp_loop_rounds 1 ?_
          rw [rounds_succ]
          go_wp2_with (first
            | (at_next; refine wpList_next_ranges (α := Int) (β := Unit) _ rfl _ rfl 3 law3 unitElem (fun x => .int .i64 x) (fun _ => .agg #[]) (fun key kl hk => by obtain ⟨x, e, _⟩ := keyOf_int_inv Try.underlying3 hk; exact ⟨x, e⟩) (fun v y hv => ⟨(), (unitElem_inv hv).1⟩) w7.heap.size wr.heap.size c2 _ _ _ rfl hrg0 ?_ ?_))
          · intro h0 _
            exact absurd h0 hz'.out
          · intro x _ kl y w10 cnt' hkey hlk _ _ hrg1 hlt1 hg1 hs1 hen
            obtain ⟨x', e, ekl, hwx⟩ := keyOf_int_inv Try.underlying3 hkey
            injection e with _ e
            subst e ekl
            have HX := Aside0.mk (show hasI D2 x from hlk)
            clear hlk hkey
            have HB5 : Aside0 (Below w.heap.size w w10) := ⟨(HB3.out.grown hg0 HB3.out.size (by intro k hk; cases hk)).grown hg1 (Nat.le_trans HB3.out.size (by omega)) (by intro k hk; injection hk with hk; subst hk; exact HB3.out.size)⟩
            have hne := map_ne_row HD2.out HO2.out
            have hlr : g < wr.heap.size := Kd.R_lt HO2.out g rfl
            have HO5 : Aside0 (Kd.R Kd.bool 4 w10 w.heap.size (fun _ => True) (.slice (some ⟨g, 0, none⟩) l0.length cap) M2) := ⟨Kd.R_grown2 (Kd.R_grown2 HO2.out rfl hg0 (by intro k hk; cases hk)) rfl hg1 (by intro k hk; injection hk with hk; subst hk; simp [Value.ownBlock]; omega)⟩
            go_wp2_with (first
              | (at_delete; refine wpList_delete_own _ rfl _ _ 62 3 rfl 63 law3 Try.underlying62 _ w7.heap.size c2 D2 rfl hrg1.owns _ _ rfl (keyOf_int_mk Try.underlying3 hwx) ?_; intro w11 hown2 hturn))
            have hsd : Maps.size (D2.del (.int .i64 x)) + 1 = Maps.size D2 := by
              have h1 := size_del (HD2.out.tidy law3) (k := .int .i64 x)
              have h2 : Maps.has D2 (.int .i64 x) = true := HX.out
              rw [h2] at h1; simpa using h1
            go_roundg (go - 1)
            case measure => have := HM2.out; omega
            case rel =>
              refine ⟨x, M2, D2.del (.int .i64 x), c2, rfl, ⟨HI2.out.next (by omega) HX.out (fun m => hasI_del x m)⟩, HC2, ⟨by have := HM2.out; omega⟩, ⟨?_⟩, ⟨hown2⟩, ⟨?_⟩⟩
              · exact Kd.R_grown2 HO5.out rfl hturn.grown (fun k hk => by injection hk with hk; subst hk; simpa [Value.ownBlock] using hne)
              · exact HB5.out.grown hturn.grown HB5.out.size (by intro k hk; injection hk with hk; subst hk; exact hw7)
end Go.Proofs.Ytgahkloigbhgdaa.PR
