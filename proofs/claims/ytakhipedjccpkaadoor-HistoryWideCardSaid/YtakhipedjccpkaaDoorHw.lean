/- HistoryWide: its walk: it returns true. Conditions: the numbers are those of an int; the library's table stands. -/
import Derived.Test.YtakhipedjccpkaaDoorHp
import Derived.Test.YtakhipedjccpkaaDoorHv
import Derived.BigQuiet
namespace Go.Proofs.YtakhipedjccpkaaDoor.PH
open Go.RowKit Go.Proofs.YtakhipedjccpkaaDoorW.PrintWords Go.Proofs.YtakhipedjccpkaaDoorW.PrintLast Go.Proofs.YtakhipedjccpkaaDoorW.PrintMore
attribute [local go_sem] max2_int min2_int max_two min_two max_three min_three max_four min_four
set_option linter.unusedVariables false
set_option linter.unusedSimpArgs false

theorem gb_set5 (W : World) (b j : Nat) (v : Value) : W.grownBy (W.setCell ⟨b, j, none⟩ v) (some b) := ⟨rfl, rfl, rfl, by simp, fun i hi hne => Below.heap_setCell W ⟨b, j, none⟩ v i (fun e => hne (by rw [e]))⟩
theorem modulo_some (a : Int) {n : Nat} (h : 0 < n) (hn : n ≤ 12) : ∃ k : Nat, k < n ∧ butlerref03_Modulo.f a (n : Int) = some (k : Int) := by
  have b1 := Int.tmod_lt_of_pos a (show (0 : Int) < (n : Int) by omega)
  have b2 := Int.lt_tmod_of_pos a (show (0 : Int) < (n : Int) by omega)
  unfold butlerref03_Modulo.f
  rw [if_neg (by omega)]
  split
  · refine ⟨(a.tmod (n : Int) + (n : Int)).toNat, by omega, ?_⟩
    rw [wrap_i64 (by unfold I64; omega), Int.toNat_of_nonneg (by omega)]
  · refine ⟨(a.tmod (n : Int)).toNat, by omega, ?_⟩
    rw [Int.toNat_of_nonneg (by omega)]
theorem flat33_get (w : World) (l : List S33) {i j : Nat} (hi : i < l.length) (hj : j < 8) : (flat33 l)[i * 8 + j]? = (cs33 (rd_T33 l (i : Int)))[j]? := by
  have h := k33_openM ((flat33_reps w 0 (fun _ => True) l).2 i _ (List.getElem?_eq_getElem hi))
  rw [rd33_eq l hi]
  show _ = (cs33 l[i])[j]?
  rw [show cs33 l[i] = ((flat33 l).drop (i * 8)).take 8 from h.symm, List.getElem?_take_of_lt hj, List.getElem?_drop]
theorem Row33.at {w : World} {g N : Nat} {l : List S33} (h : Row33 w g N l) {i j : Nat} (hi : i < l.length) (hj : j < 8) {v : Value} (hv : (cs33 (rd_T33 l (i : Int)))[j]? = some v) : w.cell? ⟨g, i * 8 + j, none⟩ = some v ∧ w.frozen? ⟨g, i * 8 + j, none⟩ = false := by
  obtain ⟨cur, h1, h2, h3⟩ := h.pre.out
  refine ⟨?_, blk_frozen h1 _⟩
  rw [blk_cell h1, ← hv, ← flat33_get w l hi hj, ← h3, List.getElem?_take_of_lt (by omega), Array.getElem?_toList]
set_option maxHeartbeats 16000000 in
set_option maxRecDepth 100000 in
theorem wide_calls (a0 a1 : Int) (A2 : Option Addr) (c2 : Nat) (l : List S33) (a3 a4 : Int) (w : World) (htab : Tab w) (hC : Kd.C k33 w A2 l.length l) (hc : l.length ≤ c2) (h1 : I64 a1) (hn : Nums l) (ht : ∀ e ∈ l, I64 e.f4 ∧ I64 e.f5) :
    Calls Tryd.prog 6 #[.int .i64 a0, .int .i64 a1, .slice A2 l.length c2, .int .i64 a3, .int .i64 a4] w fun e w' => e = .returned (.bool true) ∧ Below w.heap.size w w' := by
  obtain ⟨K1, r1, hh1⟩ := heavy_some l
  obtain ⟨p1, p2, hp⟩ : ∃ p1 p2, linOf a0 a1 l = (p1, p2) := ⟨_, _, rfl⟩
  have hlin : history_Linear.f a0 a1 l = some (p1, p2) := by unfold history_Linear.f; rw [if_pos ⟨h1, hn⟩, hp]
  have HT := Aside0.mk htab
  have HC := Aside0.mk hC
  have HCc := Aside0.mk hc
  have HI := Aside0.mk h1
  have HN := Aside0.mk hn
  have HTT := Aside0.mk ht
  have HH := Aside0.mk hh1
  have HL := Aside0.mk hlin
  have HP := Aside0.mk hp
  clear htab hC hc h1 hn ht hh1 hlin hp
  have HB := Aside0.mk (Below.refl w.heap.size w)
  cases r1 with
  | true =>
    go_enter Tryd.func6, Tryd.ntmps6
    go_wp2_with (first
      | (go_at_call 7; (with_reducible refine (butlerlaw03_awake.calls true _ (HT.out.below HB.out) rfl).mono ?_); rintro e wa ⟨rfl, hb⟩; have n_ := Aside0.mk (below_then HB.out HB.out.size hb); clear HB; have HB := n_; clear n_ hb)
      | (go_at_call 8; (with_reducible refine (butlerlaw03_heavy.calls K1 _ _ l true _ (Kd.C_below HC.out HB.out) HCc.out HH.out).mono ?_); rintro e wb ⟨rfl, ⟨nd, rfl⟩⟩; have n_ := Aside0.mk (pw_below_drewN HB.out nd); clear HB; have HB := n_; clear n_))
    go_ret
    exact ⟨rfl, HB.out⟩
  | false =>
    by_cases hz : p2 = 0
    · subst hz
      cases p1 with
      | false =>
        go_enter Tryd.func6, Tryd.ntmps6
        go_wp2_with (first
          | (go_at_call 7; (with_reducible refine (butlerlaw03_awake.calls true _ (HT.out.below HB.out) rfl).mono ?_); rintro e wa ⟨rfl, hb⟩; have n_ := Aside0.mk (below_then HB.out HB.out.size hb); clear HB; have HB := n_; clear n_ hb)
          | (go_at_call 8; (with_reducible refine (butlerlaw03_heavy.calls K1 _ _ l false _ (Kd.C_below HC.out HB.out) HCc.out HH.out).mono ?_); rintro e wb ⟨rfl, ⟨nd, rfl⟩⟩; have n_ := Aside0.mk (pw_below_drewN HB.out nd); clear HB; have HB := n_; clear n_)
          | (go_at_call 10; (with_reducible refine (history_Linear.calls a0 a1 A2 c2 l false 0 _ (HT.out.below HB.out) (Kd.C_below HC.out HB.out) HCc.out HL.out).mono ?_); rintro e wc ⟨rfl, hb⟩; have n_ := Aside0.mk (below_then HB.out HB.out.size hb); clear HB; have HB := n_; clear n_ hb))
        go_ret
        exact ⟨rfl, HB.out⟩
      | true =>
        by_cases h0 : l.length = 0
        · have h0' : ((l.length : Int) == 0) = true := by rw [h0]; rfl
          have H0 := Aside0.mk h0
          clear h0
          go_enter Tryd.func6, Tryd.ntmps6
          go_wp2_with (first
            | (go_at_call 7; (with_reducible refine (butlerlaw03_awake.calls true _ (HT.out.below HB.out) rfl).mono ?_); rintro e wa ⟨rfl, hb⟩; have n_ := Aside0.mk (below_then HB.out HB.out.size hb); clear HB; have HB := n_; clear n_ hb)
            | (go_at_call 8; (with_reducible refine (butlerlaw03_heavy.calls K1 _ _ l false _ (Kd.C_below HC.out HB.out) HCc.out HH.out).mono ?_); rintro e wb ⟨rfl, ⟨nd, rfl⟩⟩; have n_ := Aside0.mk (pw_below_drewN HB.out nd); clear HB; have HB := n_; clear n_)
            | (go_at_call 10; (with_reducible refine (history_Linear.calls a0 a1 A2 c2 l true 0 _ (HT.out.below HB.out) (Kd.C_below HC.out HB.out) HCc.out HL.out).mono ?_); rintro e wc ⟨rfl, hb⟩; have n_ := Aside0.mk (below_then HB.out HB.out.size hb); clear HB; have HB := n_; clear n_ hb))
          go_ret
          exact ⟨rfl, HB.out⟩
        · have h0' : ((l.length : Int) == 0) = false := by rw [beq_eq_false_iff_ne]; omega
          go_enter Tryd.func6, Tryd.ntmps6
          go_upto_region 8 with (first
            | (go_at_call 7; (with_reducible refine (butlerlaw03_awake.calls true _ (HT.out.below HB.out) rfl).mono ?_); rintro e wa ⟨rfl, hb⟩; have n_ := Aside0.mk (below_then HB.out HB.out.size hb); clear HB; have HB := n_; clear n_ hb)
            | (go_at_call 8; (with_reducible refine (butlerlaw03_heavy.calls K1 _ _ l false _ (Kd.C_below HC.out HB.out) HCc.out HH.out).mono ?_); rintro e wb ⟨rfl, ⟨nd, rfl⟩⟩; have n_ := Aside0.mk (pw_below_drewN HB.out nd); clear HB; have HB := n_; clear n_)
            | (go_at_call 10; (with_reducible refine (history_Linear.calls a0 a1 A2 c2 l true 0 _ (HT.out.below HB.out) (Kd.C_below HC.out HB.out) HCc.out HL.out).mono ?_); rintro e wc ⟨rfl, hb⟩; have n_ := Aside0.mk (below_then HB.out HB.out.size hb); clear HB; have HB := n_; clear n_ hb))
          obtain ⟨hbeg, hlen, hri, hgs⟩ := lin_true HP.out
          have HBE := Aside0.mk hbeg
          have HRI := Aside0.mk hri
          have HGS := Aside0.mk hgs
          obtain ⟨kk, hkk, hmo⟩ := modulo_some a3 (Nat.pos_of_ne_zero h0) hlen
          have HMO := Aside0.mk hmo
          have HLE : Aside0 (butlerlaw03_lent.f l = some l) := ⟨by unfold butlerlaw03_lent.f; rw [if_pos (by omega)]⟩
          clear hbeg hri hgs hmo
          go_upto_region 10 with (first
            | (go_at_call 22; (with_reducible refine (butlerref03_Modulo.calls a3 (l.length : Int) (kk : Int) _ HMO.out).mono ?_); rintro e wd ⟨rfl, ⟨nd2, rfl⟩⟩; have n_ := Aside0.mk (pw_below_drewN HB.out nd2); clear HB; have HB := n_; clear n_)
            | (go_at_call 9; (with_reducible refine (butlerlaw03_lent.calls A2 c2 l l _ (Kd.C_below HC.out HB.out) HCc.out HLE.out).mono ?_); rintro e wl ⟨v, rfl, hR, hb⟩; obtain ⟨g, N, ev, hg, hx1, hx2⟩ := Kd.R_form hR (by omega); subst ev; have HRo := Aside0.mk (Row33.of hR); have HGG := Aside0.mk (Nat.le_trans HB.out.size hg); have n_ := Aside0.mk (below_then HB.out HB.out.size hb); clear HB; have HB := n_; clear n_ hb hR hg hx1 hx2))
          obtain ⟨e, he⟩ : ∃ e, e = rd_T33 l (kk : Int) := ⟨_, rfl⟩
          obtain ⟨q4, q4'⟩ := HRo.out.at (j := 4) hkk (by decide) (v := .int .i64 e.f4) (by rw [he]; rfl)
          obtain ⟨q5, q5'⟩ := HRo.out.at (j := 5) hkk (by decide) (v := .int .i64 e.f5) (by rw [he]; rfl)
          have HE := Aside0.mk he
          clear he
          by_cases hA : a4 < 0
          · have hA' : decide (a4 < 0) = true := decide_eq_true hA
            go_upto_region 15 with (fail)
            obtain ⟨wu, hwu⟩ : ∃ wu, wu = wl.setCell ⟨g, kk * 8 + 5, none⟩ (.int .i64 (-1)) := ⟨_, rfl⟩
            have HRu : Aside0 (Row33 wu g N (l.set kk { e with f5 := -1 })) := ⟨by rw [hwu]; exact HRo.out.put kk 5 e _ _ (by rw [HE.out, rd33_eq l hkk]; exact List.getElem?_eq_getElem hkk) (by decide) rfl⟩
            have n_ : Aside0 (Below w.heap.size w wu) := ⟨by rw [hwu]; exact HB.out.setCell (p := ⟨g, kk * 8 + 5, none⟩) HGG.out _⟩
            clear HB
            have HB := n_
            have HGu : Aside0 (rightP (l.set kk { e with f5 := -1 }) → Gs a0 (l.set kk { e with f5 := -1 }) 0 (state0 a0 a1)) := ⟨fun _ => HGS.out.wider (wider_set hkk (by rw [HE.out]; exact ⟨rfl, rfl, rfl⟩) (by rw [HE.out]) (by rw [HE.out]; exact Int.le_refl _) (.inl rfl))⟩
            have HNu : Aside0 (Nums (l.set kk { e with f5 := -1 })) := ⟨nums_set HN.out hkk (by rw [HE.out]; exact ⟨rfl, rfl, rfl⟩)⟩
            rw [← hwu]
            clear hwu n_ q4 q4' q5 q5' HRo
            obtain ⟨u, hu⟩ : ∃ u, u = l.set kk { e with f5 := -1 } := ⟨_, rfl⟩
            have hul : u.length = l.length := by rw [hu]; simp
            rw [← hu] at HRu HGu HNu
            have HUL := Aside0.mk hul
            obtain ⟨K2, r2, hh2⟩ := heavy_some u
            have HV2 : Aside0 (Calls Tryd.prog 8 #[.slice (some ⟨g, 0, none⟩) l.length N] wu fun e w' => e = .returned (.bool r2) ∧ Drawn0 wu w') := ⟨by
              have hr := Kd.R_reads' (HRu.out.row HGG.out)
              have := butlerlaw03_heavy.calls K2 (some ⟨g, 0, none⟩) N u r2 wu hr.2.2 hr.2.1 hh2
              rwa [hul] at this⟩
            have HLU : Aside0 (∀ b f, linOf a0 a1 u = (b, f) → ∀ W, Below wu.heap.size wu W → Tab W → Calls Tryd.prog 10 #[.int .i64 a0, .int .i64 a1, .slice (some ⟨g, 0, none⟩) l.length N] W fun e w' => e = .returned (.tuple #[.bool b, .int .i64 f]) ∧ Below W.heap.size W w') := ⟨by
              intro b f hbf W hW hT
              have hr := Kd.R_reads' (HRu.out.row HGG.out)
              have := history_Linear.calls a0 a1 (some ⟨g, 0, none⟩) N u b f W hT (Kd.C_below hr.2.2 hW) hr.2.1 (by unfold history_Linear.f; rw [if_pos ⟨HI.out, HNu.out⟩, hbf])
              rwa [hul] at this⟩
            have HWI := Aside0.mk (lin_wide HBE.out (by omega) HGu.out)
            clear hu hul hh2
            cases r2 with
            | true =>
              go_wp2_with (go_at_call 8; (with_reducible refine HV2.out.mono ?_); rintro e wm ⟨rfl, ⟨nd3, rfl⟩⟩; have n_ := Aside0.mk (pw_below_drewN HB.out nd3); clear HB; have HB := n_; clear n_)
              go_ret
              exact ⟨rfl, HB.out⟩
            | false =>
              rcases HWI.out with hwi | hwi
              · have HLu := Aside0.mk (HLU.out true 0 hwi)
                clear hwi HLU HWI
                go_upto_region 22 with (first
                  | (go_at_call 8; (with_reducible refine HV2.out.mono ?_); rintro e wm ⟨rfl, ⟨nd3, rfl⟩⟩; have HBm : Aside0 (Below wu.heap.size wu (wu.drewN nd3)) := ⟨pw_below_drewN (Below.refl _ _) nd3⟩; have n_ := Aside0.mk (pw_below_drewN HB.out nd3); clear HB; have HB := n_; clear n_)
                  | (go_at_call 10; (with_reducible refine (HLu.out _ HBm.out (HT.out.below HB.out)).mono ?_); rintro e wn ⟨rfl, hb⟩; have n_ := Aside0.mk (below_then HB.out HB.out.size hb); clear HB; have HB := n_; clear n_ hb))
                go_upto_region 23 with (fail)
                go_loopg [20, 21] (l.length + 1) (fun gk v20 v21 wr => ∃ (q i : Nat), v20 = .int .i64 q ∧ v21 = .int .i64 i ∧ q < l.length ∧ i ≤ l.length ∧ l.length - i < gk ∧ Aside0 (Below w.heap.size w wr))
                case atStart => exact ⟨0, 0, rfl, rfl, by omega, by omega, by omega, HB⟩
                case round =>
                  clear HB
                  obtain ⟨q, i, rfl, rfl, hq, i1, hgk, HBw⟩ := hrel
                  by_cases hlt : i < l.length
                  · have hlt' : decide ((i : Int) < (l.length : Int)) = true := decide_eq_true (by omega)
                    obtain ⟨ad, e1, x0, x1, x2, x3, x4, x5, x6, x7⟩ := at_T33 (Kd.C_below HC.out HBw.out) (i : Int) (by omega) (by omega)
                    obtain ⟨ad', e2, z0, z1, z2, z3, z4, z5, z6, z7⟩ := at_T33 (Kd.C_below HC.out HBw.out) (q : Int) (by omega) (by omega)
                    subst e1
                    obtain rfl : ad = ad' := by injection e2
                    rw [Int.toNat_natCast] at x4 z4
                    clear x0 x1 x2 x3 x5 x6 x7 z0 z1 z2 z3 z5 z6 z7 e2
                    by_cases hgt : (rd_T33 l (q : Int)).f4 < (rd_T33 l (i : Int)).f4
                    · have hgt' : decide ((rd_T33 l (q : Int)).f4 < (rd_T33 l (i : Int)).f4) = true := decide_eq_true hgt
                      go_upto_region 25 with (fail)
                      go_quiet (fail)
                      go_wp2
                      go_roundg (gk - 1)
                      case measure => omega
                      case rel => exact ⟨i, i + 1, rfl, by go_num, by omega, by omega, by omega, ⟨pw_below_drewN HBw.out _⟩⟩
                    · have hgt' : decide ((rd_T33 l (q : Int)).f4 < (rd_T33 l (i : Int)).f4) = false := decide_eq_false hgt
                      go_upto_region 25 with (fail)
                      go_quiet (fail)
                      go_wp2
                      go_roundg (gk - 1)
                      case measure => omega
                      case rel => exact ⟨q, i + 1, rfl, by go_num, by omega, by omega, by omega, ⟨pw_below_drewN HBw.out _⟩⟩
                  · have hlt' : decide ((i : Int) < (l.length : Int)) = false := decide_eq_false (by omega)
                    go_upto_region 29 with (fail)
                    obtain ⟨wo, rfl⟩ : ∃ wo : World, wo = wr := ⟨_, rfl⟩
                    obtain ⟨go, rfl⟩ : ∃ go : Nat, go = gk := ⟨_, rfl⟩
                    clear i1 hgk hlt hlt'
                    go_loopg [22, 23] (l.length + 1) (fun gj v22 v23 wr => ∃ (j : Nat), v23 = .int .i64 j ∧ j ≤ l.length ∧ l.length - j < gj ∧ Aside0 (Kd.R k33 33 wr w.heap.size (fun _ => True) v22 (restTo l q j)) ∧ Aside0 (Below w.heap.size w wr))
                    case atStart => exact ⟨0, rfl, by omega, by omega, ⟨Kd.R_nil _ _ _ _ _⟩, HBw⟩
                    case round =>
                      clear HBw
                      obtain ⟨j, rfl, j1, hgj, HO, HBv⟩ := hrel
                      by_cases hj : j < l.length
                      · have hj' : decide ((j : Int) < (l.length : Int)) = true := decide_eq_true (by omega)
                        by_cases hjq : j = q
                        · subst hjq
                          go_wp2
                          go_roundg (gk - 1)
                          case measure => omega
                          case rel =>
                            refine ⟨j + 1, by go_num, by omega, by omega, ⟨?_⟩, HBv⟩
                            simp only [restTo]; rw [if_pos trivial]; exact HO.out
                        · have hjq' : ((j : Int) == (q : Int)) = false := by rw [beq_eq_false_iff_ne]; omega
                          obtain ⟨ad, e1, x0, x1, x2, x3, x4, x5, x6, x7⟩ := at_T33 (Kd.C_below HC.out HBv.out) (j : Int) (by omega) (by omega)
                          obtain ⟨ad', e2, z0, z1, z2, z3, z4, z5, z6, z7⟩ := at_T33 (Kd.C_below HC.out HBv.out) (q : Int) (by omega) (by omega)
                          subst e1
                          obtain rfl : ad = ad' := by injection e2
                          rw [Int.toNat_natCast] at x0 x1 x2 x3 x4 x5 x6 x7 z4
                          clear z0 z1 z2 z3 z5 z6 z7 e2
                          obtain ⟨x, hx⟩ : ∃ x, x = rd_T33 l (j : Int) := ⟨_, rfl⟩
                          obtain ⟨t, ht⟩ : ∃ t, t = (rd_T33 l (q : Int)).f4 := ⟨_, rfl⟩
                          rw [← hx] at x0 x1 x2 x3 x4 x5 x6 x7
                          rw [← ht] at z4
                          have HX := Aside0.mk hx
                          have HTQ := Aside0.mk ht
                          clear hx ht
                          have zl := World.block_lt_of_cell? _ _ z4
                          go_upto_region 33 with (fail)
                          obtain ⟨wb, hwb⟩ : ∃ wb, wb = wr.alloc (.cells #[.int .i64 x.f0, .int .i64 x.f1, .int .i64 x.f2, .int .i64 x.f3, .int .i64 x.f4, .int .i64 x.f5, .int .i64 x.f6.f0, .int .i64 x.f6.f1] 33) := ⟨_, rfl⟩
                          have hlb : Below wr.heap.size wr wb := by rw [hwb]; exact below_alloc (Below.refl _ _) _
                          have HBX : Aside0 (wb.heap[wr.heap.size]? = some (oS33 x)) := ⟨by rw [hwb]; exact blk_new wr _⟩
                          have HOb := Aside0.mk (Kd.R_below HO.out hlb)
                          have HBb : Aside0 (Below w.heap.size w wb) := ⟨below_then HBv.out HBv.out.size hlb⟩
                          have HNEW : ∀ k, u22.ownBlock = some k → k < wr.heap.size := Kd.R_lt HO.out
                          have z4 := pw_cell_below hlb z4
                          have hwz := HBv.out.size
                          rw [← hwb]
                          clear hwb hlb x0 x1 x2 x3 x4 x5 x6 x7 zl HO HBv
                          obtain ⟨y0, y1, y2, y3, y4, y5, y6, y7⟩ := cells_event HBX.out
                          have y5' := blk_frozen HBX.out 5
                          by_cases hge : t ≤ x.f5
                          · have hge' : decide (t ≤ x.f5) = true := decide_eq_true hge
                            go_quiet (fail)
                            go_upto_region 35 with (fail)
                            obtain ⟨wd, hwd⟩ : ∃ wd, wd = (wb.drewN nq).setCell ⟨wr.heap.size, 5, none⟩ (.int .i64 (-1)) := ⟨_, rfl⟩
                            have HBX2 : Aside0 (wd.heap[wr.heap.size]? = some (oS33 { x with f5 := -1 })) := ⟨by
                              rw [hwd]
                              exact blk_put (cs := #[.int .i64 x.f0, .int .i64 x.f1, .int .i64 x.f2, .int .i64 x.f3, .int .i64 x.f4, .int .i64 x.f5, .int .i64 x.f6.f0, .int .i64 x.f6.f1]) (blk_below HBX.out (pw_below_drewN (Below.refl _ _) _)) 5 _ rfl⟩
                            have HBd : Aside0 (Below w.heap.size w wd) := ⟨by rw [hwd]; exact (pw_below_drewN HBb.out nq).setCell (p := ⟨wr.heap.size, 5, none⟩) hwz _⟩
                            have HOd : Aside0 (Kd.R k33 33 wd w.heap.size (fun _ => True) u22 (restTo l q j)) := ⟨by rw [hwd]; exact Kd.R_grown2 (Kd.R_drewN HOb.out nq) rfl (gb_set5 _ _ _ _) (by intro k hk hk2; injection hk with hk; subst hk; exact absurd (HNEW _ hk2.symm) (Nat.lt_irrefl _))⟩
                            rw [← hwd]
                            clear hwd y0 y1 y2 y3 y4 y5 y6 y7 y5' z4
                            obtain ⟨y0, y1, y2, y3, y4, y5, y6, y7⟩ := cells_event HBX2.out
                            go_wp2_with ((with_reducible refine gate_builtin (b := .append) (xs := #[.tmp 164, .tmp 166]) rfl ?_); at_builtin; refine Kd.R_append k33 (w0 := w) w.heap.size rfl (.tmp 164) (.tmp 166) 22 33 (.agg #[(.int .i64 0), (.int .i64 0), (.int .i64 0), (.int .i64 0), (.int .i64 0), (.int .i64 0), (.int .i64 0), (.int .i64 0)]) 64 rfl Tryd.underlying22 info33 rfl (by decide) (by omega) u22 (restTo l q j) ({ x with f5 := -1 } : S33) [.int .i64 x.f0, .int .i64 x.f1, .int .i64 x.f2, .int .i64 x.f3, .int .i64 x.f4, .int .i64 (-1), .int .i64 x.f6.f0, .int .i64 x.f6.f1] (fun _ => True) (fun _ => False) rfl (by first | (go_simp; done) | (go_simp; rfl)) (k33_mkM _ _ _ ({ x with f5 := -1 } : S33)) (fun _ hk => hk.elim) (fun _ _ => trivial) HOd.out HBd.out HBd.out.size ?aL ?_; (case aL => have := restTo_len l q j; omega); intro v1 w1 ho hb _ _)
                            go_roundg (gk - 1)
                            case measure => omega
                            case rel =>
                              refine ⟨j + 1, by go_num, by omega, by omega, ⟨?_⟩, ⟨hb⟩⟩
                              simp only [restTo]; rw [if_neg hjq, ← HTQ.out, ← HX.out, show cl t x = { x with f5 := -1 } by unfold cl; rw [if_pos hge]]; exact ho
                          · have hge' : decide (t ≤ x.f5) = false := decide_eq_false hge
                            go_quiet (fail)
                            go_upto_region 35 with (fail)
                            obtain ⟨wd, hwd⟩ : ∃ wd, wd = wb.drewN nq := ⟨_, rfl⟩
                            have hld : Below wb.heap.size wb wd := by rw [hwd]; exact pw_below_drewN (Below.refl _ _) _
                            have HBX2 := Aside0.mk (blk_below HBX.out hld)
                            have HBd : Aside0 (Below w.heap.size w wd) := ⟨below_then HBb.out HBb.out.size hld⟩
                            have HOd := Aside0.mk (Kd.R_below HOb.out hld)
                            rw [← hwd]
                            clear hwd hld y0 y1 y2 y3 y4 y5 y6 y7 y5' z4
                            obtain ⟨y0, y1, y2, y3, y4, y5, y6, y7⟩ := cells_event HBX2.out
                            go_wp2_with ((with_reducible refine gate_builtin (b := .append) (xs := #[.tmp 164, .tmp 166]) rfl ?_); at_builtin; refine Kd.R_append k33 (w0 := w) w.heap.size rfl (.tmp 164) (.tmp 166) 22 33 (.agg #[(.int .i64 0), (.int .i64 0), (.int .i64 0), (.int .i64 0), (.int .i64 0), (.int .i64 0), (.int .i64 0), (.int .i64 0)]) 64 rfl Tryd.underlying22 info33 rfl (by decide) (by omega) u22 (restTo l q j) x [.int .i64 x.f0, .int .i64 x.f1, .int .i64 x.f2, .int .i64 x.f3, .int .i64 x.f4, .int .i64 x.f5, .int .i64 x.f6.f0, .int .i64 x.f6.f1] (fun _ => True) (fun _ => False) rfl (by first | (go_simp; done) | (go_simp; rfl)) (k33_mkM _ _ _ x) (fun _ hk => hk.elim) (fun _ _ => trivial) HOd.out HBd.out HBd.out.size ?aL ?_; (case aL => have := restTo_len l q j; omega); intro v1 w1 ho hb _ _)
                            go_roundg (gk - 1)
                            case measure => omega
                            case rel =>
                              refine ⟨j + 1, by go_num, by omega, by omega, ⟨?_⟩, ⟨hb⟩⟩
                              simp only [restTo]; rw [if_neg hjq, ← HTQ.out, ← HX.out, show cl t x = x by unfold cl; rw [if_neg (by omega)]]; exact ho
                      · have hj' : decide ((j : Int) < (l.length : Int)) = false := decide_eq_false (by omega)
                        obtain rfl : j = l.length := by omega
                        obtain ⟨Ar, cr, er⟩ := Kd.R_slice HO.out
                        subst er
                        have hrl := restTo_len l q l.length
                        have hLR : ∀ b f, linOf a0 a1 (restTo l q l.length) = (b, f) → history_Linear.f a0 a1 (restTo l q l.length) = some (b, f) := by
                          intro b f hbf; unfold history_Linear.f; rw [if_pos ⟨HI.out, nums_rest HN.out q _ (Nat.le_refl _)⟩, hbf]
                        have HLR := Aside0.mk hLR
                        clear hLR hrl
                        have hr := Kd.R_reads' HO.out
                        have HR1 := Aside0.mk hr.2.2
                        have HR2 := Aside0.mk hr.2.1
                        clear hr
                        rcases lin_wide (u := restTo l q l.length) HBE.out (by have := restTo_len l q l.length; omega) (fun _ => gs_rest hq HGS.out) with hwi | hwi
                        · have HLF := Aside0.mk (HLR.out true 0 hwi)
                          clear hwi HLR
                          go_wp2_with (go_at_call 10; (with_reducible refine (history_Linear.calls a0 a1 Ar cr (restTo l q l.length) true 0 _ (HT.out.below HBv.out) HR1.out HR2.out HLF.out).mono ?_); rintro e wz ⟨rfl, hb⟩; have HBz : Aside0 (Below w.heap.size w wz) := ⟨below_then HBv.out HBv.out.size hb⟩; clear hb)
                          go_ret
                          exact ⟨rfl, HBz.out⟩
                        · have HLF := Aside0.mk (HLR.out false 30 hwi)
                          clear hwi HLR
                          go_wp2_with (go_at_call 10; (with_reducible refine (history_Linear.calls a0 a1 Ar cr (restTo l q l.length) false 30 _ (HT.out.below HBv.out) HR1.out HR2.out HLF.out).mono ?_); rintro e wz ⟨rfl, hb⟩; have HBz : Aside0 (Below w.heap.size w wz) := ⟨below_then HBv.out HBv.out.size hb⟩; clear hb)
                          go_ret
                          exact ⟨rfl, HBz.out⟩
              · have HLu := Aside0.mk (HLU.out false 30 hwi)
                clear hwi HLU HWI
                go_upto_region 22 with (first
                  | (go_at_call 8; (with_reducible refine HV2.out.mono ?_); rintro e wm ⟨rfl, ⟨nd3, rfl⟩⟩; have HBm : Aside0 (Below wu.heap.size wu (wu.drewN nd3)) := ⟨pw_below_drewN (Below.refl _ _) nd3⟩; have n_ := Aside0.mk (pw_below_drewN HB.out nd3); clear HB; have HB := n_; clear n_)
                  | (go_at_call 10; (with_reducible refine (HLu.out _ HBm.out (HT.out.below HB.out)).mono ?_); rintro e wn ⟨rfl, hb⟩; have n_ := Aside0.mk (below_then HB.out HB.out.size hb); clear HB; have HB := n_; clear n_ hb))
                go_upto_region 23 with (fail)
                go_loopg [20, 21] (l.length + 1) (fun gk v20 v21 wr => ∃ (q i : Nat), v20 = .int .i64 q ∧ v21 = .int .i64 i ∧ q < l.length ∧ i ≤ l.length ∧ l.length - i < gk ∧ Aside0 (Below w.heap.size w wr))
                case atStart => exact ⟨0, 0, rfl, rfl, by omega, by omega, by omega, HB⟩
                case round =>
                  clear HB
                  obtain ⟨q, i, rfl, rfl, hq, i1, hgk, HBw⟩ := hrel
                  by_cases hlt : i < l.length
                  · have hlt' : decide ((i : Int) < (l.length : Int)) = true := decide_eq_true (by omega)
                    obtain ⟨ad, e1, x0, x1, x2, x3, x4, x5, x6, x7⟩ := at_T33 (Kd.C_below HC.out HBw.out) (i : Int) (by omega) (by omega)
                    obtain ⟨ad', e2, z0, z1, z2, z3, z4, z5, z6, z7⟩ := at_T33 (Kd.C_below HC.out HBw.out) (q : Int) (by omega) (by omega)
                    subst e1
                    obtain rfl : ad = ad' := by injection e2
                    rw [Int.toNat_natCast] at x4 z4
                    clear x0 x1 x2 x3 x5 x6 x7 z0 z1 z2 z3 z5 z6 z7 e2
                    by_cases hgt : (rd_T33 l (q : Int)).f4 < (rd_T33 l (i : Int)).f4
                    · have hgt' : decide ((rd_T33 l (q : Int)).f4 < (rd_T33 l (i : Int)).f4) = true := decide_eq_true hgt
                      go_upto_region 25 with (fail)
                      go_quiet (fail)
                      go_wp2
                      go_roundg (gk - 1)
                      case measure => omega
                      case rel => exact ⟨i, i + 1, rfl, by go_num, by omega, by omega, by omega, ⟨pw_below_drewN HBw.out _⟩⟩
                    · have hgt' : decide ((rd_T33 l (q : Int)).f4 < (rd_T33 l (i : Int)).f4) = false := decide_eq_false hgt
                      go_upto_region 25 with (fail)
                      go_quiet (fail)
                      go_wp2
                      go_roundg (gk - 1)
                      case measure => omega
                      case rel => exact ⟨q, i + 1, rfl, by go_num, by omega, by omega, by omega, ⟨pw_below_drewN HBw.out _⟩⟩
                  · have hlt' : decide ((i : Int) < (l.length : Int)) = false := decide_eq_false (by omega)
                    go_upto_region 29 with (fail)
                    obtain ⟨wo, rfl⟩ : ∃ wo : World, wo = wr := ⟨_, rfl⟩
                    obtain ⟨go, rfl⟩ : ∃ go : Nat, go = gk := ⟨_, rfl⟩
                    clear i1 hgk hlt hlt'
                    go_loopg [22, 23] (l.length + 1) (fun gj v22 v23 wr => ∃ (j : Nat), v23 = .int .i64 j ∧ j ≤ l.length ∧ l.length - j < gj ∧ Aside0 (Kd.R k33 33 wr w.heap.size (fun _ => True) v22 (restTo l q j)) ∧ Aside0 (Below w.heap.size w wr))
                    case atStart => exact ⟨0, rfl, by omega, by omega, ⟨Kd.R_nil _ _ _ _ _⟩, HBw⟩
                    case round =>
                      clear HBw
                      obtain ⟨j, rfl, j1, hgj, HO, HBv⟩ := hrel
                      by_cases hj : j < l.length
                      · have hj' : decide ((j : Int) < (l.length : Int)) = true := decide_eq_true (by omega)
                        by_cases hjq : j = q
                        · subst hjq
                          go_wp2
                          go_roundg (gk - 1)
                          case measure => omega
                          case rel =>
                            refine ⟨j + 1, by go_num, by omega, by omega, ⟨?_⟩, HBv⟩
                            simp only [restTo]; rw [if_pos trivial]; exact HO.out
                        · have hjq' : ((j : Int) == (q : Int)) = false := by rw [beq_eq_false_iff_ne]; omega
                          obtain ⟨ad, e1, x0, x1, x2, x3, x4, x5, x6, x7⟩ := at_T33 (Kd.C_below HC.out HBv.out) (j : Int) (by omega) (by omega)
                          obtain ⟨ad', e2, z0, z1, z2, z3, z4, z5, z6, z7⟩ := at_T33 (Kd.C_below HC.out HBv.out) (q : Int) (by omega) (by omega)
                          subst e1
                          obtain rfl : ad = ad' := by injection e2
                          rw [Int.toNat_natCast] at x0 x1 x2 x3 x4 x5 x6 x7 z4
                          clear z0 z1 z2 z3 z5 z6 z7 e2
                          obtain ⟨x, hx⟩ : ∃ x, x = rd_T33 l (j : Int) := ⟨_, rfl⟩
                          obtain ⟨t, ht⟩ : ∃ t, t = (rd_T33 l (q : Int)).f4 := ⟨_, rfl⟩
                          rw [← hx] at x0 x1 x2 x3 x4 x5 x6 x7
                          rw [← ht] at z4
                          have HX := Aside0.mk hx
                          have HTQ := Aside0.mk ht
                          clear hx ht
                          have zl := World.block_lt_of_cell? _ _ z4
                          go_upto_region 33 with (fail)
                          obtain ⟨wb, hwb⟩ : ∃ wb, wb = wr.alloc (.cells #[.int .i64 x.f0, .int .i64 x.f1, .int .i64 x.f2, .int .i64 x.f3, .int .i64 x.f4, .int .i64 x.f5, .int .i64 x.f6.f0, .int .i64 x.f6.f1] 33) := ⟨_, rfl⟩
                          have hlb : Below wr.heap.size wr wb := by rw [hwb]; exact below_alloc (Below.refl _ _) _
                          have HBX : Aside0 (wb.heap[wr.heap.size]? = some (oS33 x)) := ⟨by rw [hwb]; exact blk_new wr _⟩
                          have HOb := Aside0.mk (Kd.R_below HO.out hlb)
                          have HBb : Aside0 (Below w.heap.size w wb) := ⟨below_then HBv.out HBv.out.size hlb⟩
                          have HNEW : ∀ k, u22.ownBlock = some k → k < wr.heap.size := Kd.R_lt HO.out
                          have z4 := pw_cell_below hlb z4
                          have hwz := HBv.out.size
                          rw [← hwb]
                          clear hwb hlb x0 x1 x2 x3 x4 x5 x6 x7 zl HO HBv
                          obtain ⟨y0, y1, y2, y3, y4, y5, y6, y7⟩ := cells_event HBX.out
                          have y5' := blk_frozen HBX.out 5
                          by_cases hge : t ≤ x.f5
                          · have hge' : decide (t ≤ x.f5) = true := decide_eq_true hge
                            go_quiet (fail)
                            go_upto_region 35 with (fail)
                            obtain ⟨wd, hwd⟩ : ∃ wd, wd = (wb.drewN nq).setCell ⟨wr.heap.size, 5, none⟩ (.int .i64 (-1)) := ⟨_, rfl⟩
                            have HBX2 : Aside0 (wd.heap[wr.heap.size]? = some (oS33 { x with f5 := -1 })) := ⟨by
                              rw [hwd]
                              exact blk_put (cs := #[.int .i64 x.f0, .int .i64 x.f1, .int .i64 x.f2, .int .i64 x.f3, .int .i64 x.f4, .int .i64 x.f5, .int .i64 x.f6.f0, .int .i64 x.f6.f1]) (blk_below HBX.out (pw_below_drewN (Below.refl _ _) _)) 5 _ rfl⟩
                            have HBd : Aside0 (Below w.heap.size w wd) := ⟨by rw [hwd]; exact (pw_below_drewN HBb.out nq).setCell (p := ⟨wr.heap.size, 5, none⟩) hwz _⟩
                            have HOd : Aside0 (Kd.R k33 33 wd w.heap.size (fun _ => True) u22 (restTo l q j)) := ⟨by rw [hwd]; exact Kd.R_grown2 (Kd.R_drewN HOb.out nq) rfl (gb_set5 _ _ _ _) (by intro k hk hk2; injection hk with hk; subst hk; exact absurd (HNEW _ hk2.symm) (Nat.lt_irrefl _))⟩
                            rw [← hwd]
                            clear hwd y0 y1 y2 y3 y4 y5 y6 y7 y5' z4
                            obtain ⟨y0, y1, y2, y3, y4, y5, y6, y7⟩ := cells_event HBX2.out
                            go_wp2_with ((with_reducible refine gate_builtin (b := .append) (xs := #[.tmp 164, .tmp 166]) rfl ?_); at_builtin; refine Kd.R_append k33 (w0 := w) w.heap.size rfl (.tmp 164) (.tmp 166) 22 33 (.agg #[(.int .i64 0), (.int .i64 0), (.int .i64 0), (.int .i64 0), (.int .i64 0), (.int .i64 0), (.int .i64 0), (.int .i64 0)]) 64 rfl Tryd.underlying22 info33 rfl (by decide) (by omega) u22 (restTo l q j) ({ x with f5 := -1 } : S33) [.int .i64 x.f0, .int .i64 x.f1, .int .i64 x.f2, .int .i64 x.f3, .int .i64 x.f4, .int .i64 (-1), .int .i64 x.f6.f0, .int .i64 x.f6.f1] (fun _ => True) (fun _ => False) rfl (by first | (go_simp; done) | (go_simp; rfl)) (k33_mkM _ _ _ ({ x with f5 := -1 } : S33)) (fun _ hk => hk.elim) (fun _ _ => trivial) HOd.out HBd.out HBd.out.size ?aL ?_; (case aL => have := restTo_len l q j; omega); intro v1 w1 ho hb _ _)
                            go_roundg (gk - 1)
                            case measure => omega
                            case rel =>
                              refine ⟨j + 1, by go_num, by omega, by omega, ⟨?_⟩, ⟨hb⟩⟩
                              simp only [restTo]; rw [if_neg hjq, ← HTQ.out, ← HX.out, show cl t x = { x with f5 := -1 } by unfold cl; rw [if_pos hge]]; exact ho
                          · have hge' : decide (t ≤ x.f5) = false := decide_eq_false hge
                            go_quiet (fail)
                            go_upto_region 35 with (fail)
                            obtain ⟨wd, hwd⟩ : ∃ wd, wd = wb.drewN nq := ⟨_, rfl⟩
                            have hld : Below wb.heap.size wb wd := by rw [hwd]; exact pw_below_drewN (Below.refl _ _) _
                            have HBX2 := Aside0.mk (blk_below HBX.out hld)
                            have HBd : Aside0 (Below w.heap.size w wd) := ⟨below_then HBb.out HBb.out.size hld⟩
                            have HOd := Aside0.mk (Kd.R_below HOb.out hld)
                            rw [← hwd]
                            clear hwd hld y0 y1 y2 y3 y4 y5 y6 y7 y5' z4
                            obtain ⟨y0, y1, y2, y3, y4, y5, y6, y7⟩ := cells_event HBX2.out
                            go_wp2_with ((with_reducible refine gate_builtin (b := .append) (xs := #[.tmp 164, .tmp 166]) rfl ?_); at_builtin; refine Kd.R_append k33 (w0 := w) w.heap.size rfl (.tmp 164) (.tmp 166) 22 33 (.agg #[(.int .i64 0), (.int .i64 0), (.int .i64 0), (.int .i64 0), (.int .i64 0), (.int .i64 0), (.int .i64 0), (.int .i64 0)]) 64 rfl Tryd.underlying22 info33 rfl (by decide) (by omega) u22 (restTo l q j) x [.int .i64 x.f0, .int .i64 x.f1, .int .i64 x.f2, .int .i64 x.f3, .int .i64 x.f4, .int .i64 x.f5, .int .i64 x.f6.f0, .int .i64 x.f6.f1] (fun _ => True) (fun _ => False) rfl (by first | (go_simp; done) | (go_simp; rfl)) (k33_mkM _ _ _ x) (fun _ hk => hk.elim) (fun _ _ => trivial) HOd.out HBd.out HBd.out.size ?aL ?_; (case aL => have := restTo_len l q j; omega); intro v1 w1 ho hb _ _)
                            go_roundg (gk - 1)
                            case measure => omega
                            case rel =>
                              refine ⟨j + 1, by go_num, by omega, by omega, ⟨?_⟩, ⟨hb⟩⟩
                              simp only [restTo]; rw [if_neg hjq, ← HTQ.out, ← HX.out, show cl t x = x by unfold cl; rw [if_neg (by omega)]]; exact ho
                      · have hj' : decide ((j : Int) < (l.length : Int)) = false := decide_eq_false (by omega)
                        obtain rfl : j = l.length := by omega
                        obtain ⟨Ar, cr, er⟩ := Kd.R_slice HO.out
                        subst er
                        have hrl := restTo_len l q l.length
                        have hLR : ∀ b f, linOf a0 a1 (restTo l q l.length) = (b, f) → history_Linear.f a0 a1 (restTo l q l.length) = some (b, f) := by
                          intro b f hbf; unfold history_Linear.f; rw [if_pos ⟨HI.out, nums_rest HN.out q _ (Nat.le_refl _)⟩, hbf]
                        have HLR := Aside0.mk hLR
                        clear hLR hrl
                        have hr := Kd.R_reads' HO.out
                        have HR1 := Aside0.mk hr.2.2
                        have HR2 := Aside0.mk hr.2.1
                        clear hr
                        rcases lin_wide (u := restTo l q l.length) HBE.out (by have := restTo_len l q l.length; omega) (fun _ => gs_rest hq HGS.out) with hwi | hwi
                        · have HLF := Aside0.mk (HLR.out true 0 hwi)
                          clear hwi HLR
                          go_wp2_with (go_at_call 10; (with_reducible refine (history_Linear.calls a0 a1 Ar cr (restTo l q l.length) true 0 _ (HT.out.below HBv.out) HR1.out HR2.out HLF.out).mono ?_); rintro e wz ⟨rfl, hb⟩; have HBz : Aside0 (Below w.heap.size w wz) := ⟨below_then HBv.out HBv.out.size hb⟩; clear hb)
                          go_ret
                          exact ⟨rfl, HBz.out⟩
                        · have HLF := Aside0.mk (HLR.out false 30 hwi)
                          clear hwi HLR
                          go_wp2_with (go_at_call 10; (with_reducible refine (history_Linear.calls a0 a1 Ar cr (restTo l q l.length) false 30 _ (HT.out.below HBv.out) HR1.out HR2.out HLF.out).mono ?_); rintro e wz ⟨rfl, hb⟩; have HBz : Aside0 (Below w.heap.size w wz) := ⟨below_then HBv.out HBv.out.size hb⟩; clear hb)
                          go_ret
                          exact ⟨rfl, HBz.out⟩
          · have hA' : decide (a4 < 0) = false := decide_eq_false hA
            by_cases hA2 : 1000 < a4
            · have hA2' : decide (1000 < a4) = true := decide_eq_true hA2
              go_upto_region 15 with (fail)
              obtain ⟨wu, hwu⟩ : ∃ wu, wu = wl.setCell ⟨g, kk * 8 + 5, none⟩ (.int .i64 (-1)) := ⟨_, rfl⟩
              have HRu : Aside0 (Row33 wu g N (l.set kk { e with f5 := -1 })) := ⟨by rw [hwu]; exact HRo.out.put kk 5 e _ _ (by rw [HE.out, rd33_eq l hkk]; exact List.getElem?_eq_getElem hkk) (by decide) rfl⟩
              have n_ : Aside0 (Below w.heap.size w wu) := ⟨by rw [hwu]; exact HB.out.setCell (p := ⟨g, kk * 8 + 5, none⟩) HGG.out _⟩
              clear HB
              have HB := n_
              have HGu : Aside0 (rightP (l.set kk { e with f5 := -1 }) → Gs a0 (l.set kk { e with f5 := -1 }) 0 (state0 a0 a1)) := ⟨fun _ => HGS.out.wider (wider_set hkk (by rw [HE.out]; exact ⟨rfl, rfl, rfl⟩) (by rw [HE.out]) (by rw [HE.out]; exact Int.le_refl _) (.inl rfl))⟩
              have HNu : Aside0 (Nums (l.set kk { e with f5 := -1 })) := ⟨nums_set HN.out hkk (by rw [HE.out]; exact ⟨rfl, rfl, rfl⟩)⟩
              rw [← hwu]
              clear hwu n_ q4 q4' q5 q5' HRo
              obtain ⟨u, hu⟩ : ∃ u, u = l.set kk { e with f5 := -1 } := ⟨_, rfl⟩
              have hul : u.length = l.length := by rw [hu]; simp
              rw [← hu] at HRu HGu HNu
              have HUL := Aside0.mk hul
              obtain ⟨K2, r2, hh2⟩ := heavy_some u
              have HV2 : Aside0 (Calls Tryd.prog 8 #[.slice (some ⟨g, 0, none⟩) l.length N] wu fun e w' => e = .returned (.bool r2) ∧ Drawn0 wu w') := ⟨by
                have hr := Kd.R_reads' (HRu.out.row HGG.out)
                have := butlerlaw03_heavy.calls K2 (some ⟨g, 0, none⟩) N u r2 wu hr.2.2 hr.2.1 hh2
                rwa [hul] at this⟩
              have HLU : Aside0 (∀ b f, linOf a0 a1 u = (b, f) → ∀ W, Below wu.heap.size wu W → Tab W → Calls Tryd.prog 10 #[.int .i64 a0, .int .i64 a1, .slice (some ⟨g, 0, none⟩) l.length N] W fun e w' => e = .returned (.tuple #[.bool b, .int .i64 f]) ∧ Below W.heap.size W w') := ⟨by
                intro b f hbf W hW hT
                have hr := Kd.R_reads' (HRu.out.row HGG.out)
                have := history_Linear.calls a0 a1 (some ⟨g, 0, none⟩) N u b f W hT (Kd.C_below hr.2.2 hW) hr.2.1 (by unfold history_Linear.f; rw [if_pos ⟨HI.out, HNu.out⟩, hbf])
                rwa [hul] at this⟩
              have HWI := Aside0.mk (lin_wide HBE.out (by omega) HGu.out)
              clear hu hul hh2
              cases r2 with
              | true =>
                go_wp2_with (go_at_call 8; (with_reducible refine HV2.out.mono ?_); rintro e wm ⟨rfl, ⟨nd3, rfl⟩⟩; have n_ := Aside0.mk (pw_below_drewN HB.out nd3); clear HB; have HB := n_; clear n_)
                go_ret
                exact ⟨rfl, HB.out⟩
              | false =>
                rcases HWI.out with hwi | hwi
                · have HLu := Aside0.mk (HLU.out true 0 hwi)
                  clear hwi HLU HWI
                  go_upto_region 22 with (first
                    | (go_at_call 8; (with_reducible refine HV2.out.mono ?_); rintro e wm ⟨rfl, ⟨nd3, rfl⟩⟩; have HBm : Aside0 (Below wu.heap.size wu (wu.drewN nd3)) := ⟨pw_below_drewN (Below.refl _ _) nd3⟩; have n_ := Aside0.mk (pw_below_drewN HB.out nd3); clear HB; have HB := n_; clear n_)
                    | (go_at_call 10; (with_reducible refine (HLu.out _ HBm.out (HT.out.below HB.out)).mono ?_); rintro e wn ⟨rfl, hb⟩; have n_ := Aside0.mk (below_then HB.out HB.out.size hb); clear HB; have HB := n_; clear n_ hb))
                  go_upto_region 23 with (fail)
                  go_loopg [20, 21] (l.length + 1) (fun gk v20 v21 wr => ∃ (q i : Nat), v20 = .int .i64 q ∧ v21 = .int .i64 i ∧ q < l.length ∧ i ≤ l.length ∧ l.length - i < gk ∧ Aside0 (Below w.heap.size w wr))
                  case atStart => exact ⟨0, 0, rfl, rfl, by omega, by omega, by omega, HB⟩
                  case round =>
                    clear HB
                    obtain ⟨q, i, rfl, rfl, hq, i1, hgk, HBw⟩ := hrel
                    by_cases hlt : i < l.length
                    · have hlt' : decide ((i : Int) < (l.length : Int)) = true := decide_eq_true (by omega)
                      obtain ⟨ad, e1, x0, x1, x2, x3, x4, x5, x6, x7⟩ := at_T33 (Kd.C_below HC.out HBw.out) (i : Int) (by omega) (by omega)
                      obtain ⟨ad', e2, z0, z1, z2, z3, z4, z5, z6, z7⟩ := at_T33 (Kd.C_below HC.out HBw.out) (q : Int) (by omega) (by omega)
                      subst e1
                      obtain rfl : ad = ad' := by injection e2
                      rw [Int.toNat_natCast] at x4 z4
                      clear x0 x1 x2 x3 x5 x6 x7 z0 z1 z2 z3 z5 z6 z7 e2
                      by_cases hgt : (rd_T33 l (q : Int)).f4 < (rd_T33 l (i : Int)).f4
                      · have hgt' : decide ((rd_T33 l (q : Int)).f4 < (rd_T33 l (i : Int)).f4) = true := decide_eq_true hgt
                        go_upto_region 25 with (fail)
                        go_quiet (fail)
                        go_wp2
                        go_roundg (gk - 1)
                        case measure => omega
                        case rel => exact ⟨i, i + 1, rfl, by go_num, by omega, by omega, by omega, ⟨pw_below_drewN HBw.out _⟩⟩
                      · have hgt' : decide ((rd_T33 l (q : Int)).f4 < (rd_T33 l (i : Int)).f4) = false := decide_eq_false hgt
                        go_upto_region 25 with (fail)
                        go_quiet (fail)
                        go_wp2
                        go_roundg (gk - 1)
                        case measure => omega
                        case rel => exact ⟨q, i + 1, rfl, by go_num, by omega, by omega, by omega, ⟨pw_below_drewN HBw.out _⟩⟩
                    · have hlt' : decide ((i : Int) < (l.length : Int)) = false := decide_eq_false (by omega)
                      go_upto_region 29 with (fail)
                      obtain ⟨wo, rfl⟩ : ∃ wo : World, wo = wr := ⟨_, rfl⟩
                      obtain ⟨go, rfl⟩ : ∃ go : Nat, go = gk := ⟨_, rfl⟩
                      clear i1 hgk hlt hlt'
                      go_loopg [22, 23] (l.length + 1) (fun gj v22 v23 wr => ∃ (j : Nat), v23 = .int .i64 j ∧ j ≤ l.length ∧ l.length - j < gj ∧ Aside0 (Kd.R k33 33 wr w.heap.size (fun _ => True) v22 (restTo l q j)) ∧ Aside0 (Below w.heap.size w wr))
                      case atStart => exact ⟨0, rfl, by omega, by omega, ⟨Kd.R_nil _ _ _ _ _⟩, HBw⟩
                      case round =>
                        clear HBw
                        obtain ⟨j, rfl, j1, hgj, HO, HBv⟩ := hrel
                        by_cases hj : j < l.length
                        · have hj' : decide ((j : Int) < (l.length : Int)) = true := decide_eq_true (by omega)
                          by_cases hjq : j = q
                          · subst hjq
                            go_wp2
                            go_roundg (gk - 1)
                            case measure => omega
                            case rel =>
                              refine ⟨j + 1, by go_num, by omega, by omega, ⟨?_⟩, HBv⟩
                              simp only [restTo]; rw [if_pos trivial]; exact HO.out
                          · have hjq' : ((j : Int) == (q : Int)) = false := by rw [beq_eq_false_iff_ne]; omega
                            obtain ⟨ad, e1, x0, x1, x2, x3, x4, x5, x6, x7⟩ := at_T33 (Kd.C_below HC.out HBv.out) (j : Int) (by omega) (by omega)
                            obtain ⟨ad', e2, z0, z1, z2, z3, z4, z5, z6, z7⟩ := at_T33 (Kd.C_below HC.out HBv.out) (q : Int) (by omega) (by omega)
                            subst e1
                            obtain rfl : ad = ad' := by injection e2
                            rw [Int.toNat_natCast] at x0 x1 x2 x3 x4 x5 x6 x7 z4
                            clear z0 z1 z2 z3 z5 z6 z7 e2
                            obtain ⟨x, hx⟩ : ∃ x, x = rd_T33 l (j : Int) := ⟨_, rfl⟩
                            obtain ⟨t, ht⟩ : ∃ t, t = (rd_T33 l (q : Int)).f4 := ⟨_, rfl⟩
                            rw [← hx] at x0 x1 x2 x3 x4 x5 x6 x7
                            rw [← ht] at z4
                            have HX := Aside0.mk hx
                            have HTQ := Aside0.mk ht
                            clear hx ht
                            have zl := World.block_lt_of_cell? _ _ z4
                            go_upto_region 33 with (fail)
                            obtain ⟨wb, hwb⟩ : ∃ wb, wb = wr.alloc (.cells #[.int .i64 x.f0, .int .i64 x.f1, .int .i64 x.f2, .int .i64 x.f3, .int .i64 x.f4, .int .i64 x.f5, .int .i64 x.f6.f0, .int .i64 x.f6.f1] 33) := ⟨_, rfl⟩
                            have hlb : Below wr.heap.size wr wb := by rw [hwb]; exact below_alloc (Below.refl _ _) _
                            have HBX : Aside0 (wb.heap[wr.heap.size]? = some (oS33 x)) := ⟨by rw [hwb]; exact blk_new wr _⟩
                            have HOb := Aside0.mk (Kd.R_below HO.out hlb)
                            have HBb : Aside0 (Below w.heap.size w wb) := ⟨below_then HBv.out HBv.out.size hlb⟩
                            have HNEW : ∀ k, u22.ownBlock = some k → k < wr.heap.size := Kd.R_lt HO.out
                            have z4 := pw_cell_below hlb z4
                            have hwz := HBv.out.size
                            rw [← hwb]
                            clear hwb hlb x0 x1 x2 x3 x4 x5 x6 x7 zl HO HBv
                            obtain ⟨y0, y1, y2, y3, y4, y5, y6, y7⟩ := cells_event HBX.out
                            have y5' := blk_frozen HBX.out 5
                            by_cases hge : t ≤ x.f5
                            · have hge' : decide (t ≤ x.f5) = true := decide_eq_true hge
                              go_quiet (fail)
                              go_upto_region 35 with (fail)
                              obtain ⟨wd, hwd⟩ : ∃ wd, wd = (wb.drewN nq).setCell ⟨wr.heap.size, 5, none⟩ (.int .i64 (-1)) := ⟨_, rfl⟩
                              have HBX2 : Aside0 (wd.heap[wr.heap.size]? = some (oS33 { x with f5 := -1 })) := ⟨by
                                rw [hwd]
                                exact blk_put (cs := #[.int .i64 x.f0, .int .i64 x.f1, .int .i64 x.f2, .int .i64 x.f3, .int .i64 x.f4, .int .i64 x.f5, .int .i64 x.f6.f0, .int .i64 x.f6.f1]) (blk_below HBX.out (pw_below_drewN (Below.refl _ _) _)) 5 _ rfl⟩
                              have HBd : Aside0 (Below w.heap.size w wd) := ⟨by rw [hwd]; exact (pw_below_drewN HBb.out nq).setCell (p := ⟨wr.heap.size, 5, none⟩) hwz _⟩
                              have HOd : Aside0 (Kd.R k33 33 wd w.heap.size (fun _ => True) u22 (restTo l q j)) := ⟨by rw [hwd]; exact Kd.R_grown2 (Kd.R_drewN HOb.out nq) rfl (gb_set5 _ _ _ _) (by intro k hk hk2; injection hk with hk; subst hk; exact absurd (HNEW _ hk2.symm) (Nat.lt_irrefl _))⟩
                              rw [← hwd]
                              clear hwd y0 y1 y2 y3 y4 y5 y6 y7 y5' z4
                              obtain ⟨y0, y1, y2, y3, y4, y5, y6, y7⟩ := cells_event HBX2.out
                              go_wp2_with ((with_reducible refine gate_builtin (b := .append) (xs := #[.tmp 164, .tmp 166]) rfl ?_); at_builtin; refine Kd.R_append k33 (w0 := w) w.heap.size rfl (.tmp 164) (.tmp 166) 22 33 (.agg #[(.int .i64 0), (.int .i64 0), (.int .i64 0), (.int .i64 0), (.int .i64 0), (.int .i64 0), (.int .i64 0), (.int .i64 0)]) 64 rfl Tryd.underlying22 info33 rfl (by decide) (by omega) u22 (restTo l q j) ({ x with f5 := -1 } : S33) [.int .i64 x.f0, .int .i64 x.f1, .int .i64 x.f2, .int .i64 x.f3, .int .i64 x.f4, .int .i64 (-1), .int .i64 x.f6.f0, .int .i64 x.f6.f1] (fun _ => True) (fun _ => False) rfl (by first | (go_simp; done) | (go_simp; rfl)) (k33_mkM _ _ _ ({ x with f5 := -1 } : S33)) (fun _ hk => hk.elim) (fun _ _ => trivial) HOd.out HBd.out HBd.out.size ?aL ?_; (case aL => have := restTo_len l q j; omega); intro v1 w1 ho hb _ _)
                              go_roundg (gk - 1)
                              case measure => omega
                              case rel =>
                                refine ⟨j + 1, by go_num, by omega, by omega, ⟨?_⟩, ⟨hb⟩⟩
                                simp only [restTo]; rw [if_neg hjq, ← HTQ.out, ← HX.out, show cl t x = { x with f5 := -1 } by unfold cl; rw [if_pos hge]]; exact ho
                            · have hge' : decide (t ≤ x.f5) = false := decide_eq_false hge
                              go_quiet (fail)
                              go_upto_region 35 with (fail)
                              obtain ⟨wd, hwd⟩ : ∃ wd, wd = wb.drewN nq := ⟨_, rfl⟩
                              have hld : Below wb.heap.size wb wd := by rw [hwd]; exact pw_below_drewN (Below.refl _ _) _
                              have HBX2 := Aside0.mk (blk_below HBX.out hld)
                              have HBd : Aside0 (Below w.heap.size w wd) := ⟨below_then HBb.out HBb.out.size hld⟩
                              have HOd := Aside0.mk (Kd.R_below HOb.out hld)
                              rw [← hwd]
                              clear hwd hld y0 y1 y2 y3 y4 y5 y6 y7 y5' z4
                              obtain ⟨y0, y1, y2, y3, y4, y5, y6, y7⟩ := cells_event HBX2.out
                              go_wp2_with ((with_reducible refine gate_builtin (b := .append) (xs := #[.tmp 164, .tmp 166]) rfl ?_); at_builtin; refine Kd.R_append k33 (w0 := w) w.heap.size rfl (.tmp 164) (.tmp 166) 22 33 (.agg #[(.int .i64 0), (.int .i64 0), (.int .i64 0), (.int .i64 0), (.int .i64 0), (.int .i64 0), (.int .i64 0), (.int .i64 0)]) 64 rfl Tryd.underlying22 info33 rfl (by decide) (by omega) u22 (restTo l q j) x [.int .i64 x.f0, .int .i64 x.f1, .int .i64 x.f2, .int .i64 x.f3, .int .i64 x.f4, .int .i64 x.f5, .int .i64 x.f6.f0, .int .i64 x.f6.f1] (fun _ => True) (fun _ => False) rfl (by first | (go_simp; done) | (go_simp; rfl)) (k33_mkM _ _ _ x) (fun _ hk => hk.elim) (fun _ _ => trivial) HOd.out HBd.out HBd.out.size ?aL ?_; (case aL => have := restTo_len l q j; omega); intro v1 w1 ho hb _ _)
                              go_roundg (gk - 1)
                              case measure => omega
                              case rel =>
                                refine ⟨j + 1, by go_num, by omega, by omega, ⟨?_⟩, ⟨hb⟩⟩
                                simp only [restTo]; rw [if_neg hjq, ← HTQ.out, ← HX.out, show cl t x = x by unfold cl; rw [if_neg (by omega)]]; exact ho
                        · have hj' : decide ((j : Int) < (l.length : Int)) = false := decide_eq_false (by omega)
                          obtain rfl : j = l.length := by omega
                          obtain ⟨Ar, cr, er⟩ := Kd.R_slice HO.out
                          subst er
                          have hrl := restTo_len l q l.length
                          have hLR : ∀ b f, linOf a0 a1 (restTo l q l.length) = (b, f) → history_Linear.f a0 a1 (restTo l q l.length) = some (b, f) := by
                            intro b f hbf; unfold history_Linear.f; rw [if_pos ⟨HI.out, nums_rest HN.out q _ (Nat.le_refl _)⟩, hbf]
                          have HLR := Aside0.mk hLR
                          clear hLR hrl
                          have hr := Kd.R_reads' HO.out
                          have HR1 := Aside0.mk hr.2.2
                          have HR2 := Aside0.mk hr.2.1
                          clear hr
                          rcases lin_wide (u := restTo l q l.length) HBE.out (by have := restTo_len l q l.length; omega) (fun _ => gs_rest hq HGS.out) with hwi | hwi
                          · have HLF := Aside0.mk (HLR.out true 0 hwi)
                            clear hwi HLR
                            go_wp2_with (go_at_call 10; (with_reducible refine (history_Linear.calls a0 a1 Ar cr (restTo l q l.length) true 0 _ (HT.out.below HBv.out) HR1.out HR2.out HLF.out).mono ?_); rintro e wz ⟨rfl, hb⟩; have HBz : Aside0 (Below w.heap.size w wz) := ⟨below_then HBv.out HBv.out.size hb⟩; clear hb)
                            go_ret
                            exact ⟨rfl, HBz.out⟩
                          · have HLF := Aside0.mk (HLR.out false 30 hwi)
                            clear hwi HLR
                            go_wp2_with (go_at_call 10; (with_reducible refine (history_Linear.calls a0 a1 Ar cr (restTo l q l.length) false 30 _ (HT.out.below HBv.out) HR1.out HR2.out HLF.out).mono ?_); rintro e wz ⟨rfl, hb⟩; have HBz : Aside0 (Below w.heap.size w wz) := ⟨below_then HBv.out HBv.out.size hb⟩; clear hb)
                            go_ret
                            exact ⟨rfl, HBz.out⟩
                · have HLu := Aside0.mk (HLU.out false 30 hwi)
                  clear hwi HLU HWI
                  go_upto_region 22 with (first
                    | (go_at_call 8; (with_reducible refine HV2.out.mono ?_); rintro e wm ⟨rfl, ⟨nd3, rfl⟩⟩; have HBm : Aside0 (Below wu.heap.size wu (wu.drewN nd3)) := ⟨pw_below_drewN (Below.refl _ _) nd3⟩; have n_ := Aside0.mk (pw_below_drewN HB.out nd3); clear HB; have HB := n_; clear n_)
                    | (go_at_call 10; (with_reducible refine (HLu.out _ HBm.out (HT.out.below HB.out)).mono ?_); rintro e wn ⟨rfl, hb⟩; have n_ := Aside0.mk (below_then HB.out HB.out.size hb); clear HB; have HB := n_; clear n_ hb))
                  go_upto_region 23 with (fail)
                  go_loopg [20, 21] (l.length + 1) (fun gk v20 v21 wr => ∃ (q i : Nat), v20 = .int .i64 q ∧ v21 = .int .i64 i ∧ q < l.length ∧ i ≤ l.length ∧ l.length - i < gk ∧ Aside0 (Below w.heap.size w wr))
                  case atStart => exact ⟨0, 0, rfl, rfl, by omega, by omega, by omega, HB⟩
                  case round =>
                    clear HB
                    obtain ⟨q, i, rfl, rfl, hq, i1, hgk, HBw⟩ := hrel
                    by_cases hlt : i < l.length
                    · have hlt' : decide ((i : Int) < (l.length : Int)) = true := decide_eq_true (by omega)
                      obtain ⟨ad, e1, x0, x1, x2, x3, x4, x5, x6, x7⟩ := at_T33 (Kd.C_below HC.out HBw.out) (i : Int) (by omega) (by omega)
                      obtain ⟨ad', e2, z0, z1, z2, z3, z4, z5, z6, z7⟩ := at_T33 (Kd.C_below HC.out HBw.out) (q : Int) (by omega) (by omega)
                      subst e1
                      obtain rfl : ad = ad' := by injection e2
                      rw [Int.toNat_natCast] at x4 z4
                      clear x0 x1 x2 x3 x5 x6 x7 z0 z1 z2 z3 z5 z6 z7 e2
                      by_cases hgt : (rd_T33 l (q : Int)).f4 < (rd_T33 l (i : Int)).f4
                      · have hgt' : decide ((rd_T33 l (q : Int)).f4 < (rd_T33 l (i : Int)).f4) = true := decide_eq_true hgt
                        go_upto_region 25 with (fail)
                        go_quiet (fail)
                        go_wp2
                        go_roundg (gk - 1)
                        case measure => omega
                        case rel => exact ⟨i, i + 1, rfl, by go_num, by omega, by omega, by omega, ⟨pw_below_drewN HBw.out _⟩⟩
                      · have hgt' : decide ((rd_T33 l (q : Int)).f4 < (rd_T33 l (i : Int)).f4) = false := decide_eq_false hgt
                        go_upto_region 25 with (fail)
                        go_quiet (fail)
                        go_wp2
                        go_roundg (gk - 1)
                        case measure => omega
                        case rel => exact ⟨q, i + 1, rfl, by go_num, by omega, by omega, by omega, ⟨pw_below_drewN HBw.out _⟩⟩
                    · have hlt' : decide ((i : Int) < (l.length : Int)) = false := decide_eq_false (by omega)
                      go_upto_region 29 with (fail)
                      obtain ⟨wo, rfl⟩ : ∃ wo : World, wo = wr := ⟨_, rfl⟩
                      obtain ⟨go, rfl⟩ : ∃ go : Nat, go = gk := ⟨_, rfl⟩
                      clear i1 hgk hlt hlt'
                      go_loopg [22, 23] (l.length + 1) (fun gj v22 v23 wr => ∃ (j : Nat), v23 = .int .i64 j ∧ j ≤ l.length ∧ l.length - j < gj ∧ Aside0 (Kd.R k33 33 wr w.heap.size (fun _ => True) v22 (restTo l q j)) ∧ Aside0 (Below w.heap.size w wr))
                      case atStart => exact ⟨0, rfl, by omega, by omega, ⟨Kd.R_nil _ _ _ _ _⟩, HBw⟩
                      case round =>
                        clear HBw
                        obtain ⟨j, rfl, j1, hgj, HO, HBv⟩ := hrel
                        by_cases hj : j < l.length
                        · have hj' : decide ((j : Int) < (l.length : Int)) = true := decide_eq_true (by omega)
                          by_cases hjq : j = q
                          · subst hjq
                            go_wp2
                            go_roundg (gk - 1)
                            case measure => omega
                            case rel =>
                              refine ⟨j + 1, by go_num, by omega, by omega, ⟨?_⟩, HBv⟩
                              simp only [restTo]; rw [if_pos trivial]; exact HO.out
                          · have hjq' : ((j : Int) == (q : Int)) = false := by rw [beq_eq_false_iff_ne]; omega
                            obtain ⟨ad, e1, x0, x1, x2, x3, x4, x5, x6, x7⟩ := at_T33 (Kd.C_below HC.out HBv.out) (j : Int) (by omega) (by omega)
                            obtain ⟨ad', e2, z0, z1, z2, z3, z4, z5, z6, z7⟩ := at_T33 (Kd.C_below HC.out HBv.out) (q : Int) (by omega) (by omega)
                            subst e1
                            obtain rfl : ad = ad' := by injection e2
                            rw [Int.toNat_natCast] at x0 x1 x2 x3 x4 x5 x6 x7 z4
                            clear z0 z1 z2 z3 z5 z6 z7 e2
                            obtain ⟨x, hx⟩ : ∃ x, x = rd_T33 l (j : Int) := ⟨_, rfl⟩
                            obtain ⟨t, ht⟩ : ∃ t, t = (rd_T33 l (q : Int)).f4 := ⟨_, rfl⟩
                            rw [← hx] at x0 x1 x2 x3 x4 x5 x6 x7
                            rw [← ht] at z4
                            have HX := Aside0.mk hx
                            have HTQ := Aside0.mk ht
                            clear hx ht
                            have zl := World.block_lt_of_cell? _ _ z4
                            go_upto_region 33 with (fail)
                            obtain ⟨wb, hwb⟩ : ∃ wb, wb = wr.alloc (.cells #[.int .i64 x.f0, .int .i64 x.f1, .int .i64 x.f2, .int .i64 x.f3, .int .i64 x.f4, .int .i64 x.f5, .int .i64 x.f6.f0, .int .i64 x.f6.f1] 33) := ⟨_, rfl⟩
                            have hlb : Below wr.heap.size wr wb := by rw [hwb]; exact below_alloc (Below.refl _ _) _
                            have HBX : Aside0 (wb.heap[wr.heap.size]? = some (oS33 x)) := ⟨by rw [hwb]; exact blk_new wr _⟩
                            have HOb := Aside0.mk (Kd.R_below HO.out hlb)
                            have HBb : Aside0 (Below w.heap.size w wb) := ⟨below_then HBv.out HBv.out.size hlb⟩
                            have HNEW : ∀ k, u22.ownBlock = some k → k < wr.heap.size := Kd.R_lt HO.out
                            have z4 := pw_cell_below hlb z4
                            have hwz := HBv.out.size
                            rw [← hwb]
                            clear hwb hlb x0 x1 x2 x3 x4 x5 x6 x7 zl HO HBv
                            obtain ⟨y0, y1, y2, y3, y4, y5, y6, y7⟩ := cells_event HBX.out
                            have y5' := blk_frozen HBX.out 5
                            by_cases hge : t ≤ x.f5
                            · have hge' : decide (t ≤ x.f5) = true := decide_eq_true hge
                              go_quiet (fail)
                              go_upto_region 35 with (fail)
                              obtain ⟨wd, hwd⟩ : ∃ wd, wd = (wb.drewN nq).setCell ⟨wr.heap.size, 5, none⟩ (.int .i64 (-1)) := ⟨_, rfl⟩
                              have HBX2 : Aside0 (wd.heap[wr.heap.size]? = some (oS33 { x with f5 := -1 })) := ⟨by
                                rw [hwd]
                                exact blk_put (cs := #[.int .i64 x.f0, .int .i64 x.f1, .int .i64 x.f2, .int .i64 x.f3, .int .i64 x.f4, .int .i64 x.f5, .int .i64 x.f6.f0, .int .i64 x.f6.f1]) (blk_below HBX.out (pw_below_drewN (Below.refl _ _) _)) 5 _ rfl⟩
                              have HBd : Aside0 (Below w.heap.size w wd) := ⟨by rw [hwd]; exact (pw_below_drewN HBb.out nq).setCell (p := ⟨wr.heap.size, 5, none⟩) hwz _⟩
                              have HOd : Aside0 (Kd.R k33 33 wd w.heap.size (fun _ => True) u22 (restTo l q j)) := ⟨by rw [hwd]; exact Kd.R_grown2 (Kd.R_drewN HOb.out nq) rfl (gb_set5 _ _ _ _) (by intro k hk hk2; injection hk with hk; subst hk; exact absurd (HNEW _ hk2.symm) (Nat.lt_irrefl _))⟩
                              rw [← hwd]
                              clear hwd y0 y1 y2 y3 y4 y5 y6 y7 y5' z4
                              obtain ⟨y0, y1, y2, y3, y4, y5, y6, y7⟩ := cells_event HBX2.out
                              go_wp2_with ((with_reducible refine gate_builtin (b := .append) (xs := #[.tmp 164, .tmp 166]) rfl ?_); at_builtin; refine Kd.R_append k33 (w0 := w) w.heap.size rfl (.tmp 164) (.tmp 166) 22 33 (.agg #[(.int .i64 0), (.int .i64 0), (.int .i64 0), (.int .i64 0), (.int .i64 0), (.int .i64 0), (.int .i64 0), (.int .i64 0)]) 64 rfl Tryd.underlying22 info33 rfl (by decide) (by omega) u22 (restTo l q j) ({ x with f5 := -1 } : S33) [.int .i64 x.f0, .int .i64 x.f1, .int .i64 x.f2, .int .i64 x.f3, .int .i64 x.f4, .int .i64 (-1), .int .i64 x.f6.f0, .int .i64 x.f6.f1] (fun _ => True) (fun _ => False) rfl (by first | (go_simp; done) | (go_simp; rfl)) (k33_mkM _ _ _ ({ x with f5 := -1 } : S33)) (fun _ hk => hk.elim) (fun _ _ => trivial) HOd.out HBd.out HBd.out.size ?aL ?_; (case aL => have := restTo_len l q j; omega); intro v1 w1 ho hb _ _)
                              go_roundg (gk - 1)
                              case measure => omega
                              case rel =>
                                refine ⟨j + 1, by go_num, by omega, by omega, ⟨?_⟩, ⟨hb⟩⟩
                                simp only [restTo]; rw [if_neg hjq, ← HTQ.out, ← HX.out, show cl t x = { x with f5 := -1 } by unfold cl; rw [if_pos hge]]; exact ho
                            · have hge' : decide (t ≤ x.f5) = false := decide_eq_false hge
                              go_quiet (fail)
                              go_upto_region 35 with (fail)
                              obtain ⟨wd, hwd⟩ : ∃ wd, wd = wb.drewN nq := ⟨_, rfl⟩
                              have hld : Below wb.heap.size wb wd := by rw [hwd]; exact pw_below_drewN (Below.refl _ _) _
                              have HBX2 := Aside0.mk (blk_below HBX.out hld)
                              have HBd : Aside0 (Below w.heap.size w wd) := ⟨below_then HBb.out HBb.out.size hld⟩
                              have HOd := Aside0.mk (Kd.R_below HOb.out hld)
                              rw [← hwd]
                              clear hwd hld y0 y1 y2 y3 y4 y5 y6 y7 y5' z4
                              obtain ⟨y0, y1, y2, y3, y4, y5, y6, y7⟩ := cells_event HBX2.out
                              go_wp2_with ((with_reducible refine gate_builtin (b := .append) (xs := #[.tmp 164, .tmp 166]) rfl ?_); at_builtin; refine Kd.R_append k33 (w0 := w) w.heap.size rfl (.tmp 164) (.tmp 166) 22 33 (.agg #[(.int .i64 0), (.int .i64 0), (.int .i64 0), (.int .i64 0), (.int .i64 0), (.int .i64 0), (.int .i64 0), (.int .i64 0)]) 64 rfl Tryd.underlying22 info33 rfl (by decide) (by omega) u22 (restTo l q j) x [.int .i64 x.f0, .int .i64 x.f1, .int .i64 x.f2, .int .i64 x.f3, .int .i64 x.f4, .int .i64 x.f5, .int .i64 x.f6.f0, .int .i64 x.f6.f1] (fun _ => True) (fun _ => False) rfl (by first | (go_simp; done) | (go_simp; rfl)) (k33_mkM _ _ _ x) (fun _ hk => hk.elim) (fun _ _ => trivial) HOd.out HBd.out HBd.out.size ?aL ?_; (case aL => have := restTo_len l q j; omega); intro v1 w1 ho hb _ _)
                              go_roundg (gk - 1)
                              case measure => omega
                              case rel =>
                                refine ⟨j + 1, by go_num, by omega, by omega, ⟨?_⟩, ⟨hb⟩⟩
                                simp only [restTo]; rw [if_neg hjq, ← HTQ.out, ← HX.out, show cl t x = x by unfold cl; rw [if_neg (by omega)]]; exact ho
                        · have hj' : decide ((j : Int) < (l.length : Int)) = false := decide_eq_false (by omega)
                          obtain rfl : j = l.length := by omega
                          obtain ⟨Ar, cr, er⟩ := Kd.R_slice HO.out
                          subst er
                          have hrl := restTo_len l q l.length
                          have hLR : ∀ b f, linOf a0 a1 (restTo l q l.length) = (b, f) → history_Linear.f a0 a1 (restTo l q l.length) = some (b, f) := by
                            intro b f hbf; unfold history_Linear.f; rw [if_pos ⟨HI.out, nums_rest HN.out q _ (Nat.le_refl _)⟩, hbf]
                          have HLR := Aside0.mk hLR
                          clear hLR hrl
                          have hr := Kd.R_reads' HO.out
                          have HR1 := Aside0.mk hr.2.2
                          have HR2 := Aside0.mk hr.2.1
                          clear hr
                          rcases lin_wide (u := restTo l q l.length) HBE.out (by have := restTo_len l q l.length; omega) (fun _ => gs_rest hq HGS.out) with hwi | hwi
                          · have HLF := Aside0.mk (HLR.out true 0 hwi)
                            clear hwi HLR
                            go_wp2_with (go_at_call 10; (with_reducible refine (history_Linear.calls a0 a1 Ar cr (restTo l q l.length) true 0 _ (HT.out.below HBv.out) HR1.out HR2.out HLF.out).mono ?_); rintro e wz ⟨rfl, hb⟩; have HBz : Aside0 (Below w.heap.size w wz) := ⟨below_then HBv.out HBv.out.size hb⟩; clear hb)
                            go_ret
                            exact ⟨rfl, HBz.out⟩
                          · have HLF := Aside0.mk (HLR.out false 30 hwi)
                            clear hwi HLR
                            go_wp2_with (go_at_call 10; (with_reducible refine (history_Linear.calls a0 a1 Ar cr (restTo l q l.length) false 30 _ (HT.out.below HBv.out) HR1.out HR2.out HLF.out).mono ?_); rintro e wz ⟨rfl, hb⟩; have HBz : Aside0 (Below w.heap.size w wz) := ⟨below_then HBv.out HBv.out.size hb⟩; clear hb)
                            go_ret
                            exact ⟨rfl, HBz.out⟩
            · have hA2' : decide (1000 < a4) = false := decide_eq_false hA2
              go_upto_region 13 with (fail)
              obtain ⟨z, hz⟩ : ∃ z, z = (if 0 < wrap64 (e.f4 - a4) then wrap64 (e.f4 - a4) else 0) := ⟨_, rfl⟩
              rw [← hz]
              have HZ := Aside0.mk hz
              clear hz
              obtain ⟨wk, hwk⟩ : ∃ wk, wk = wl.setCell ⟨g, kk * 8 + 4, none⟩ (.int .i64 z) := ⟨_, rfl⟩
              have HRk : Aside0 (Row33 wk g N (l.set kk { e with f4 := z })) := ⟨by rw [hwk]; exact HRo.out.put kk 4 e _ _ (by rw [HE.out, rd33_eq l hkk]; exact List.getElem?_eq_getElem hkk) (by decide) rfl⟩
              have n_ : Aside0 (Below w.heap.size w wk) := ⟨by rw [hwk]; exact HB.out.setCell (p := ⟨g, kk * 8 + 4, none⟩) HGG.out _⟩
              clear HB
              have HB := n_
              have htm := (HRI.out kk hkk).1
              unfold timesAt at htm
              rw [← HE.out] at htm
              have hti := HTT.out _ (rd33_at l hkk)
              rw [← HE.out] at hti
              have HTM := Aside0.mk htm
              have HTI := Aside0.mk hti
              have HAA : Aside0 (0 ≤ a4 ∧ a4 ≤ 1000) := ⟨by omega⟩
              have HBB4 : Aside0 (z ≤ e.f4 ∧ 0 ≤ z) := ⟨by
                rw [HZ.out]
                have a := HTM.out.1
                have b := HTI.out.1
                have c := HAA.out
                unfold I64 at b
                rw [wrap_i64 (by unfold I64; omega)]
                split <;> omega⟩
              obtain ⟨o5, o5'⟩ := HRk.out.at (i := kk) (j := 5) (by simpa using hkk) (by decide) (v := .int .i64 e.f5) (by rw [rd_set l kk kk _ hkk, if_pos rfl]; rfl)
              rw [← hwk]
              clear hwk n_ q4 q4' q5 q5' HRo htm hti
              by_cases hop : e.f5 = -1
              · have hop' : (e.f5 != -1) = false := by rw [hop]; rfl
                have HOP := Aside0.mk hop
                clear hop
                go_upto_region 15 with (fail)
                obtain ⟨wu, hwu⟩ : ∃ wu, wu = wk := ⟨_, rfl⟩
                have HRu : Aside0 (Row33 wu g N (l.set kk { e with f4 := z })) := ⟨by rw [hwu]; exact HRk.out⟩
                have n_ : Aside0 (Below w.heap.size w wu) := ⟨by rw [hwu]; exact HB.out⟩
                clear HB
                have HB := n_
                have HGu : Aside0 (rightP (l.set kk { e with f4 := z }) → Gs a0 (l.set kk { e with f4 := z }) 0 (state0 a0 a1)) := ⟨fun _ => HGS.out.wider (wider_set (e' := { e with f4 := z }) hkk (by rw [← HE.out]; exact ⟨rfl, rfl, rfl⟩) (by rw [← HE.out]) (by rw [← HE.out]; exact HBB4.out.1) (.inl HOP.out))⟩
                have HNu : Aside0 (Nums (l.set kk { e with f4 := z })) := ⟨nums_set (e' := { e with f4 := z }) HN.out hkk (by rw [← HE.out]; exact ⟨rfl, rfl, rfl⟩)⟩
                rw [← hwu]
                clear hwu n_ o5 o5' HRk
                obtain ⟨u, hu⟩ : ∃ u, u = l.set kk { e with f4 := z } := ⟨_, rfl⟩
                have hul : u.length = l.length := by rw [hu]; simp
                rw [← hu] at HRu HGu HNu
                have HUL := Aside0.mk hul
                obtain ⟨K2, r2, hh2⟩ := heavy_some u
                have HV2 : Aside0 (Calls Tryd.prog 8 #[.slice (some ⟨g, 0, none⟩) l.length N] wu fun e w' => e = .returned (.bool r2) ∧ Drawn0 wu w') := ⟨by
                  have hr := Kd.R_reads' (HRu.out.row HGG.out)
                  have := butlerlaw03_heavy.calls K2 (some ⟨g, 0, none⟩) N u r2 wu hr.2.2 hr.2.1 hh2
                  rwa [hul] at this⟩
                have HLU : Aside0 (∀ b f, linOf a0 a1 u = (b, f) → ∀ W, Below wu.heap.size wu W → Tab W → Calls Tryd.prog 10 #[.int .i64 a0, .int .i64 a1, .slice (some ⟨g, 0, none⟩) l.length N] W fun e w' => e = .returned (.tuple #[.bool b, .int .i64 f]) ∧ Below W.heap.size W w') := ⟨by
                  intro b f hbf W hW hT
                  have hr := Kd.R_reads' (HRu.out.row HGG.out)
                  have := history_Linear.calls a0 a1 (some ⟨g, 0, none⟩) N u b f W hT (Kd.C_below hr.2.2 hW) hr.2.1 (by unfold history_Linear.f; rw [if_pos ⟨HI.out, HNu.out⟩, hbf])
                  rwa [hul] at this⟩
                have HWI := Aside0.mk (lin_wide HBE.out (by omega) HGu.out)
                clear hu hul hh2
                cases r2 with
                | true =>
                  go_wp2_with (go_at_call 8; (with_reducible refine HV2.out.mono ?_); rintro e wm ⟨rfl, ⟨nd3, rfl⟩⟩; have n_ := Aside0.mk (pw_below_drewN HB.out nd3); clear HB; have HB := n_; clear n_)
                  go_ret
                  exact ⟨rfl, HB.out⟩
                | false =>
                  rcases HWI.out with hwi | hwi
                  · have HLu := Aside0.mk (HLU.out true 0 hwi)
                    clear hwi HLU HWI
                    go_upto_region 22 with (first
                      | (go_at_call 8; (with_reducible refine HV2.out.mono ?_); rintro e wm ⟨rfl, ⟨nd3, rfl⟩⟩; have HBm : Aside0 (Below wu.heap.size wu (wu.drewN nd3)) := ⟨pw_below_drewN (Below.refl _ _) nd3⟩; have n_ := Aside0.mk (pw_below_drewN HB.out nd3); clear HB; have HB := n_; clear n_)
                      | (go_at_call 10; (with_reducible refine (HLu.out _ HBm.out (HT.out.below HB.out)).mono ?_); rintro e wn ⟨rfl, hb⟩; have n_ := Aside0.mk (below_then HB.out HB.out.size hb); clear HB; have HB := n_; clear n_ hb))
                    go_upto_region 23 with (fail)
                    go_loopg [20, 21] (l.length + 1) (fun gk v20 v21 wr => ∃ (q i : Nat), v20 = .int .i64 q ∧ v21 = .int .i64 i ∧ q < l.length ∧ i ≤ l.length ∧ l.length - i < gk ∧ Aside0 (Below w.heap.size w wr))
                    case atStart => exact ⟨0, 0, rfl, rfl, by omega, by omega, by omega, HB⟩
                    case round =>
                      clear HB
                      obtain ⟨q, i, rfl, rfl, hq, i1, hgk, HBw⟩ := hrel
                      by_cases hlt : i < l.length
                      · have hlt' : decide ((i : Int) < (l.length : Int)) = true := decide_eq_true (by omega)
                        obtain ⟨ad, e1, x0, x1, x2, x3, x4, x5, x6, x7⟩ := at_T33 (Kd.C_below HC.out HBw.out) (i : Int) (by omega) (by omega)
                        obtain ⟨ad', e2, z0, z1, z2, z3, z4, z5, z6, z7⟩ := at_T33 (Kd.C_below HC.out HBw.out) (q : Int) (by omega) (by omega)
                        subst e1
                        obtain rfl : ad = ad' := by injection e2
                        rw [Int.toNat_natCast] at x4 z4
                        clear x0 x1 x2 x3 x5 x6 x7 z0 z1 z2 z3 z5 z6 z7 e2
                        by_cases hgt : (rd_T33 l (q : Int)).f4 < (rd_T33 l (i : Int)).f4
                        · have hgt' : decide ((rd_T33 l (q : Int)).f4 < (rd_T33 l (i : Int)).f4) = true := decide_eq_true hgt
                          go_upto_region 25 with (fail)
                          go_quiet (fail)
                          go_wp2
                          go_roundg (gk - 1)
                          case measure => omega
                          case rel => exact ⟨i, i + 1, rfl, by go_num, by omega, by omega, by omega, ⟨pw_below_drewN HBw.out _⟩⟩
                        · have hgt' : decide ((rd_T33 l (q : Int)).f4 < (rd_T33 l (i : Int)).f4) = false := decide_eq_false hgt
                          go_upto_region 25 with (fail)
                          go_quiet (fail)
                          go_wp2
                          go_roundg (gk - 1)
                          case measure => omega
                          case rel => exact ⟨q, i + 1, rfl, by go_num, by omega, by omega, by omega, ⟨pw_below_drewN HBw.out _⟩⟩
                      · have hlt' : decide ((i : Int) < (l.length : Int)) = false := decide_eq_false (by omega)
                        go_upto_region 29 with (fail)
                        obtain ⟨wo, rfl⟩ : ∃ wo : World, wo = wr := ⟨_, rfl⟩
                        obtain ⟨go, rfl⟩ : ∃ go : Nat, go = gk := ⟨_, rfl⟩
                        clear i1 hgk hlt hlt'
                        go_loopg [22, 23] (l.length + 1) (fun gj v22 v23 wr => ∃ (j : Nat), v23 = .int .i64 j ∧ j ≤ l.length ∧ l.length - j < gj ∧ Aside0 (Kd.R k33 33 wr w.heap.size (fun _ => True) v22 (restTo l q j)) ∧ Aside0 (Below w.heap.size w wr))
                        case atStart => exact ⟨0, rfl, by omega, by omega, ⟨Kd.R_nil _ _ _ _ _⟩, HBw⟩
                        case round =>
                          clear HBw
                          obtain ⟨j, rfl, j1, hgj, HO, HBv⟩ := hrel
                          by_cases hj : j < l.length
                          · have hj' : decide ((j : Int) < (l.length : Int)) = true := decide_eq_true (by omega)
                            by_cases hjq : j = q
                            · subst hjq
                              go_wp2
                              go_roundg (gk - 1)
                              case measure => omega
                              case rel =>
                                refine ⟨j + 1, by go_num, by omega, by omega, ⟨?_⟩, HBv⟩
                                simp only [restTo]; rw [if_pos trivial]; exact HO.out
                            · have hjq' : ((j : Int) == (q : Int)) = false := by rw [beq_eq_false_iff_ne]; omega
                              obtain ⟨ad, e1, x0, x1, x2, x3, x4, x5, x6, x7⟩ := at_T33 (Kd.C_below HC.out HBv.out) (j : Int) (by omega) (by omega)
                              obtain ⟨ad', e2, z0, z1, z2, z3, z4, z5, z6, z7⟩ := at_T33 (Kd.C_below HC.out HBv.out) (q : Int) (by omega) (by omega)
                              subst e1
                              obtain rfl : ad = ad' := by injection e2
                              rw [Int.toNat_natCast] at x0 x1 x2 x3 x4 x5 x6 x7 z4
                              clear z0 z1 z2 z3 z5 z6 z7 e2
                              obtain ⟨x, hx⟩ : ∃ x, x = rd_T33 l (j : Int) := ⟨_, rfl⟩
                              obtain ⟨t, ht⟩ : ∃ t, t = (rd_T33 l (q : Int)).f4 := ⟨_, rfl⟩
                              rw [← hx] at x0 x1 x2 x3 x4 x5 x6 x7
                              rw [← ht] at z4
                              have HX := Aside0.mk hx
                              have HTQ := Aside0.mk ht
                              clear hx ht
                              have zl := World.block_lt_of_cell? _ _ z4
                              go_upto_region 33 with (fail)
                              obtain ⟨wb, hwb⟩ : ∃ wb, wb = wr.alloc (.cells #[.int .i64 x.f0, .int .i64 x.f1, .int .i64 x.f2, .int .i64 x.f3, .int .i64 x.f4, .int .i64 x.f5, .int .i64 x.f6.f0, .int .i64 x.f6.f1] 33) := ⟨_, rfl⟩
                              have hlb : Below wr.heap.size wr wb := by rw [hwb]; exact below_alloc (Below.refl _ _) _
                              have HBX : Aside0 (wb.heap[wr.heap.size]? = some (oS33 x)) := ⟨by rw [hwb]; exact blk_new wr _⟩
                              have HOb := Aside0.mk (Kd.R_below HO.out hlb)
                              have HBb : Aside0 (Below w.heap.size w wb) := ⟨below_then HBv.out HBv.out.size hlb⟩
                              have HNEW : ∀ k, u22.ownBlock = some k → k < wr.heap.size := Kd.R_lt HO.out
                              have z4 := pw_cell_below hlb z4
                              have hwz := HBv.out.size
                              rw [← hwb]
                              clear hwb hlb x0 x1 x2 x3 x4 x5 x6 x7 zl HO HBv
                              obtain ⟨y0, y1, y2, y3, y4, y5, y6, y7⟩ := cells_event HBX.out
                              have y5' := blk_frozen HBX.out 5
                              by_cases hge : t ≤ x.f5
                              · have hge' : decide (t ≤ x.f5) = true := decide_eq_true hge
                                go_quiet (fail)
                                go_upto_region 35 with (fail)
                                obtain ⟨wd, hwd⟩ : ∃ wd, wd = (wb.drewN nq).setCell ⟨wr.heap.size, 5, none⟩ (.int .i64 (-1)) := ⟨_, rfl⟩
                                have HBX2 : Aside0 (wd.heap[wr.heap.size]? = some (oS33 { x with f5 := -1 })) := ⟨by
                                  rw [hwd]
                                  exact blk_put (cs := #[.int .i64 x.f0, .int .i64 x.f1, .int .i64 x.f2, .int .i64 x.f3, .int .i64 x.f4, .int .i64 x.f5, .int .i64 x.f6.f0, .int .i64 x.f6.f1]) (blk_below HBX.out (pw_below_drewN (Below.refl _ _) _)) 5 _ rfl⟩
                                have HBd : Aside0 (Below w.heap.size w wd) := ⟨by rw [hwd]; exact (pw_below_drewN HBb.out nq).setCell (p := ⟨wr.heap.size, 5, none⟩) hwz _⟩
                                have HOd : Aside0 (Kd.R k33 33 wd w.heap.size (fun _ => True) u22 (restTo l q j)) := ⟨by rw [hwd]; exact Kd.R_grown2 (Kd.R_drewN HOb.out nq) rfl (gb_set5 _ _ _ _) (by intro k hk hk2; injection hk with hk; subst hk; exact absurd (HNEW _ hk2.symm) (Nat.lt_irrefl _))⟩
                                rw [← hwd]
                                clear hwd y0 y1 y2 y3 y4 y5 y6 y7 y5' z4
                                obtain ⟨y0, y1, y2, y3, y4, y5, y6, y7⟩ := cells_event HBX2.out
                                go_wp2_with ((with_reducible refine gate_builtin (b := .append) (xs := #[.tmp 164, .tmp 166]) rfl ?_); at_builtin; refine Kd.R_append k33 (w0 := w) w.heap.size rfl (.tmp 164) (.tmp 166) 22 33 (.agg #[(.int .i64 0), (.int .i64 0), (.int .i64 0), (.int .i64 0), (.int .i64 0), (.int .i64 0), (.int .i64 0), (.int .i64 0)]) 64 rfl Tryd.underlying22 info33 rfl (by decide) (by omega) u22 (restTo l q j) ({ x with f5 := -1 } : S33) [.int .i64 x.f0, .int .i64 x.f1, .int .i64 x.f2, .int .i64 x.f3, .int .i64 x.f4, .int .i64 (-1), .int .i64 x.f6.f0, .int .i64 x.f6.f1] (fun _ => True) (fun _ => False) rfl (by first | (go_simp; done) | (go_simp; rfl)) (k33_mkM _ _ _ ({ x with f5 := -1 } : S33)) (fun _ hk => hk.elim) (fun _ _ => trivial) HOd.out HBd.out HBd.out.size ?aL ?_; (case aL => have := restTo_len l q j; omega); intro v1 w1 ho hb _ _)
                                go_roundg (gk - 1)
                                case measure => omega
                                case rel =>
                                  refine ⟨j + 1, by go_num, by omega, by omega, ⟨?_⟩, ⟨hb⟩⟩
                                  simp only [restTo]; rw [if_neg hjq, ← HTQ.out, ← HX.out, show cl t x = { x with f5 := -1 } by unfold cl; rw [if_pos hge]]; exact ho
                              · have hge' : decide (t ≤ x.f5) = false := decide_eq_false hge
                                go_quiet (fail)
                                go_upto_region 35 with (fail)
                                obtain ⟨wd, hwd⟩ : ∃ wd, wd = wb.drewN nq := ⟨_, rfl⟩
                                have hld : Below wb.heap.size wb wd := by rw [hwd]; exact pw_below_drewN (Below.refl _ _) _
                                have HBX2 := Aside0.mk (blk_below HBX.out hld)
                                have HBd : Aside0 (Below w.heap.size w wd) := ⟨below_then HBb.out HBb.out.size hld⟩
                                have HOd := Aside0.mk (Kd.R_below HOb.out hld)
                                rw [← hwd]
                                clear hwd hld y0 y1 y2 y3 y4 y5 y6 y7 y5' z4
                                obtain ⟨y0, y1, y2, y3, y4, y5, y6, y7⟩ := cells_event HBX2.out
                                go_wp2_with ((with_reducible refine gate_builtin (b := .append) (xs := #[.tmp 164, .tmp 166]) rfl ?_); at_builtin; refine Kd.R_append k33 (w0 := w) w.heap.size rfl (.tmp 164) (.tmp 166) 22 33 (.agg #[(.int .i64 0), (.int .i64 0), (.int .i64 0), (.int .i64 0), (.int .i64 0), (.int .i64 0), (.int .i64 0), (.int .i64 0)]) 64 rfl Tryd.underlying22 info33 rfl (by decide) (by omega) u22 (restTo l q j) x [.int .i64 x.f0, .int .i64 x.f1, .int .i64 x.f2, .int .i64 x.f3, .int .i64 x.f4, .int .i64 x.f5, .int .i64 x.f6.f0, .int .i64 x.f6.f1] (fun _ => True) (fun _ => False) rfl (by first | (go_simp; done) | (go_simp; rfl)) (k33_mkM _ _ _ x) (fun _ hk => hk.elim) (fun _ _ => trivial) HOd.out HBd.out HBd.out.size ?aL ?_; (case aL => have := restTo_len l q j; omega); intro v1 w1 ho hb _ _)
                                go_roundg (gk - 1)
                                case measure => omega
                                case rel =>
                                  refine ⟨j + 1, by go_num, by omega, by omega, ⟨?_⟩, ⟨hb⟩⟩
                                  simp only [restTo]; rw [if_neg hjq, ← HTQ.out, ← HX.out, show cl t x = x by unfold cl; rw [if_neg (by omega)]]; exact ho
                          · have hj' : decide ((j : Int) < (l.length : Int)) = false := decide_eq_false (by omega)
                            obtain rfl : j = l.length := by omega
                            obtain ⟨Ar, cr, er⟩ := Kd.R_slice HO.out
                            subst er
                            have hrl := restTo_len l q l.length
                            have hLR : ∀ b f, linOf a0 a1 (restTo l q l.length) = (b, f) → history_Linear.f a0 a1 (restTo l q l.length) = some (b, f) := by
                              intro b f hbf; unfold history_Linear.f; rw [if_pos ⟨HI.out, nums_rest HN.out q _ (Nat.le_refl _)⟩, hbf]
                            have HLR := Aside0.mk hLR
                            clear hLR hrl
                            have hr := Kd.R_reads' HO.out
                            have HR1 := Aside0.mk hr.2.2
                            have HR2 := Aside0.mk hr.2.1
                            clear hr
                            rcases lin_wide (u := restTo l q l.length) HBE.out (by have := restTo_len l q l.length; omega) (fun _ => gs_rest hq HGS.out) with hwi | hwi
                            · have HLF := Aside0.mk (HLR.out true 0 hwi)
                              clear hwi HLR
                              go_wp2_with (go_at_call 10; (with_reducible refine (history_Linear.calls a0 a1 Ar cr (restTo l q l.length) true 0 _ (HT.out.below HBv.out) HR1.out HR2.out HLF.out).mono ?_); rintro e wz ⟨rfl, hb⟩; have HBz : Aside0 (Below w.heap.size w wz) := ⟨below_then HBv.out HBv.out.size hb⟩; clear hb)
                              go_ret
                              exact ⟨rfl, HBz.out⟩
                            · have HLF := Aside0.mk (HLR.out false 30 hwi)
                              clear hwi HLR
                              go_wp2_with (go_at_call 10; (with_reducible refine (history_Linear.calls a0 a1 Ar cr (restTo l q l.length) false 30 _ (HT.out.below HBv.out) HR1.out HR2.out HLF.out).mono ?_); rintro e wz ⟨rfl, hb⟩; have HBz : Aside0 (Below w.heap.size w wz) := ⟨below_then HBv.out HBv.out.size hb⟩; clear hb)
                              go_ret
                              exact ⟨rfl, HBz.out⟩
                  · have HLu := Aside0.mk (HLU.out false 30 hwi)
                    clear hwi HLU HWI
                    go_upto_region 22 with (first
                      | (go_at_call 8; (with_reducible refine HV2.out.mono ?_); rintro e wm ⟨rfl, ⟨nd3, rfl⟩⟩; have HBm : Aside0 (Below wu.heap.size wu (wu.drewN nd3)) := ⟨pw_below_drewN (Below.refl _ _) nd3⟩; have n_ := Aside0.mk (pw_below_drewN HB.out nd3); clear HB; have HB := n_; clear n_)
                      | (go_at_call 10; (with_reducible refine (HLu.out _ HBm.out (HT.out.below HB.out)).mono ?_); rintro e wn ⟨rfl, hb⟩; have n_ := Aside0.mk (below_then HB.out HB.out.size hb); clear HB; have HB := n_; clear n_ hb))
                    go_upto_region 23 with (fail)
                    go_loopg [20, 21] (l.length + 1) (fun gk v20 v21 wr => ∃ (q i : Nat), v20 = .int .i64 q ∧ v21 = .int .i64 i ∧ q < l.length ∧ i ≤ l.length ∧ l.length - i < gk ∧ Aside0 (Below w.heap.size w wr))
                    case atStart => exact ⟨0, 0, rfl, rfl, by omega, by omega, by omega, HB⟩
                    case round =>
                      clear HB
                      obtain ⟨q, i, rfl, rfl, hq, i1, hgk, HBw⟩ := hrel
                      by_cases hlt : i < l.length
                      · have hlt' : decide ((i : Int) < (l.length : Int)) = true := decide_eq_true (by omega)
                        obtain ⟨ad, e1, x0, x1, x2, x3, x4, x5, x6, x7⟩ := at_T33 (Kd.C_below HC.out HBw.out) (i : Int) (by omega) (by omega)
                        obtain ⟨ad', e2, z0, z1, z2, z3, z4, z5, z6, z7⟩ := at_T33 (Kd.C_below HC.out HBw.out) (q : Int) (by omega) (by omega)
                        subst e1
                        obtain rfl : ad = ad' := by injection e2
                        rw [Int.toNat_natCast] at x4 z4
                        clear x0 x1 x2 x3 x5 x6 x7 z0 z1 z2 z3 z5 z6 z7 e2
                        by_cases hgt : (rd_T33 l (q : Int)).f4 < (rd_T33 l (i : Int)).f4
                        · have hgt' : decide ((rd_T33 l (q : Int)).f4 < (rd_T33 l (i : Int)).f4) = true := decide_eq_true hgt
                          go_upto_region 25 with (fail)
                          go_quiet (fail)
                          go_wp2
                          go_roundg (gk - 1)
                          case measure => omega
                          case rel => exact ⟨i, i + 1, rfl, by go_num, by omega, by omega, by omega, ⟨pw_below_drewN HBw.out _⟩⟩
                        · have hgt' : decide ((rd_T33 l (q : Int)).f4 < (rd_T33 l (i : Int)).f4) = false := decide_eq_false hgt
                          go_upto_region 25 with (fail)
                          go_quiet (fail)
                          go_wp2
                          go_roundg (gk - 1)
                          case measure => omega
                          case rel => exact ⟨q, i + 1, rfl, by go_num, by omega, by omega, by omega, ⟨pw_below_drewN HBw.out _⟩⟩
                      · have hlt' : decide ((i : Int) < (l.length : Int)) = false := decide_eq_false (by omega)
                        go_upto_region 29 with (fail)
                        obtain ⟨wo, rfl⟩ : ∃ wo : World, wo = wr := ⟨_, rfl⟩
                        obtain ⟨go, rfl⟩ : ∃ go : Nat, go = gk := ⟨_, rfl⟩
                        clear i1 hgk hlt hlt'
                        go_loopg [22, 23] (l.length + 1) (fun gj v22 v23 wr => ∃ (j : Nat), v23 = .int .i64 j ∧ j ≤ l.length ∧ l.length - j < gj ∧ Aside0 (Kd.R k33 33 wr w.heap.size (fun _ => True) v22 (restTo l q j)) ∧ Aside0 (Below w.heap.size w wr))
                        case atStart => exact ⟨0, rfl, by omega, by omega, ⟨Kd.R_nil _ _ _ _ _⟩, HBw⟩
                        case round =>
                          clear HBw
                          obtain ⟨j, rfl, j1, hgj, HO, HBv⟩ := hrel
                          by_cases hj : j < l.length
                          · have hj' : decide ((j : Int) < (l.length : Int)) = true := decide_eq_true (by omega)
                            by_cases hjq : j = q
                            · subst hjq
                              go_wp2
                              go_roundg (gk - 1)
                              case measure => omega
                              case rel =>
                                refine ⟨j + 1, by go_num, by omega, by omega, ⟨?_⟩, HBv⟩
                                simp only [restTo]; rw [if_pos trivial]; exact HO.out
                            · have hjq' : ((j : Int) == (q : Int)) = false := by rw [beq_eq_false_iff_ne]; omega
                              obtain ⟨ad, e1, x0, x1, x2, x3, x4, x5, x6, x7⟩ := at_T33 (Kd.C_below HC.out HBv.out) (j : Int) (by omega) (by omega)
                              obtain ⟨ad', e2, z0, z1, z2, z3, z4, z5, z6, z7⟩ := at_T33 (Kd.C_below HC.out HBv.out) (q : Int) (by omega) (by omega)
                              subst e1
                              obtain rfl : ad = ad' := by injection e2
                              rw [Int.toNat_natCast] at x0 x1 x2 x3 x4 x5 x6 x7 z4
                              clear z0 z1 z2 z3 z5 z6 z7 e2
                              obtain ⟨x, hx⟩ : ∃ x, x = rd_T33 l (j : Int) := ⟨_, rfl⟩
                              obtain ⟨t, ht⟩ : ∃ t, t = (rd_T33 l (q : Int)).f4 := ⟨_, rfl⟩
                              rw [← hx] at x0 x1 x2 x3 x4 x5 x6 x7
                              rw [← ht] at z4
                              have HX := Aside0.mk hx
                              have HTQ := Aside0.mk ht
                              clear hx ht
                              have zl := World.block_lt_of_cell? _ _ z4
                              go_upto_region 33 with (fail)
                              obtain ⟨wb, hwb⟩ : ∃ wb, wb = wr.alloc (.cells #[.int .i64 x.f0, .int .i64 x.f1, .int .i64 x.f2, .int .i64 x.f3, .int .i64 x.f4, .int .i64 x.f5, .int .i64 x.f6.f0, .int .i64 x.f6.f1] 33) := ⟨_, rfl⟩
                              have hlb : Below wr.heap.size wr wb := by rw [hwb]; exact below_alloc (Below.refl _ _) _
                              have HBX : Aside0 (wb.heap[wr.heap.size]? = some (oS33 x)) := ⟨by rw [hwb]; exact blk_new wr _⟩
                              have HOb := Aside0.mk (Kd.R_below HO.out hlb)
                              have HBb : Aside0 (Below w.heap.size w wb) := ⟨below_then HBv.out HBv.out.size hlb⟩
                              have HNEW : ∀ k, u22.ownBlock = some k → k < wr.heap.size := Kd.R_lt HO.out
                              have z4 := pw_cell_below hlb z4
                              have hwz := HBv.out.size
                              rw [← hwb]
                              clear hwb hlb x0 x1 x2 x3 x4 x5 x6 x7 zl HO HBv
                              obtain ⟨y0, y1, y2, y3, y4, y5, y6, y7⟩ := cells_event HBX.out
                              have y5' := blk_frozen HBX.out 5
                              by_cases hge : t ≤ x.f5
                              · have hge' : decide (t ≤ x.f5) = true := decide_eq_true hge
                                go_quiet (fail)
                                go_upto_region 35 with (fail)
                                obtain ⟨wd, hwd⟩ : ∃ wd, wd = (wb.drewN nq).setCell ⟨wr.heap.size, 5, none⟩ (.int .i64 (-1)) := ⟨_, rfl⟩
                                have HBX2 : Aside0 (wd.heap[wr.heap.size]? = some (oS33 { x with f5 := -1 })) := ⟨by
                                  rw [hwd]
                                  exact blk_put (cs := #[.int .i64 x.f0, .int .i64 x.f1, .int .i64 x.f2, .int .i64 x.f3, .int .i64 x.f4, .int .i64 x.f5, .int .i64 x.f6.f0, .int .i64 x.f6.f1]) (blk_below HBX.out (pw_below_drewN (Below.refl _ _) _)) 5 _ rfl⟩
                                have HBd : Aside0 (Below w.heap.size w wd) := ⟨by rw [hwd]; exact (pw_below_drewN HBb.out nq).setCell (p := ⟨wr.heap.size, 5, none⟩) hwz _⟩
                                have HOd : Aside0 (Kd.R k33 33 wd w.heap.size (fun _ => True) u22 (restTo l q j)) := ⟨by rw [hwd]; exact Kd.R_grown2 (Kd.R_drewN HOb.out nq) rfl (gb_set5 _ _ _ _) (by intro k hk hk2; injection hk with hk; subst hk; exact absurd (HNEW _ hk2.symm) (Nat.lt_irrefl _))⟩
                                rw [← hwd]
                                clear hwd y0 y1 y2 y3 y4 y5 y6 y7 y5' z4
                                obtain ⟨y0, y1, y2, y3, y4, y5, y6, y7⟩ := cells_event HBX2.out
                                go_wp2_with ((with_reducible refine gate_builtin (b := .append) (xs := #[.tmp 164, .tmp 166]) rfl ?_); at_builtin; refine Kd.R_append k33 (w0 := w) w.heap.size rfl (.tmp 164) (.tmp 166) 22 33 (.agg #[(.int .i64 0), (.int .i64 0), (.int .i64 0), (.int .i64 0), (.int .i64 0), (.int .i64 0), (.int .i64 0), (.int .i64 0)]) 64 rfl Tryd.underlying22 info33 rfl (by decide) (by omega) u22 (restTo l q j) ({ x with f5 := -1 } : S33) [.int .i64 x.f0, .int .i64 x.f1, .int .i64 x.f2, .int .i64 x.f3, .int .i64 x.f4, .int .i64 (-1), .int .i64 x.f6.f0, .int .i64 x.f6.f1] (fun _ => True) (fun _ => False) rfl (by first | (go_simp; done) | (go_simp; rfl)) (k33_mkM _ _ _ ({ x with f5 := -1 } : S33)) (fun _ hk => hk.elim) (fun _ _ => trivial) HOd.out HBd.out HBd.out.size ?aL ?_; (case aL => have := restTo_len l q j; omega); intro v1 w1 ho hb _ _)
                                go_roundg (gk - 1)
                                case measure => omega
                                case rel =>
                                  refine ⟨j + 1, by go_num, by omega, by omega, ⟨?_⟩, ⟨hb⟩⟩
                                  simp only [restTo]; rw [if_neg hjq, ← HTQ.out, ← HX.out, show cl t x = { x with f5 := -1 } by unfold cl; rw [if_pos hge]]; exact ho
                              · have hge' : decide (t ≤ x.f5) = false := decide_eq_false hge
                                go_quiet (fail)
                                go_upto_region 35 with (fail)
                                obtain ⟨wd, hwd⟩ : ∃ wd, wd = wb.drewN nq := ⟨_, rfl⟩
                                have hld : Below wb.heap.size wb wd := by rw [hwd]; exact pw_below_drewN (Below.refl _ _) _
                                have HBX2 := Aside0.mk (blk_below HBX.out hld)
                                have HBd : Aside0 (Below w.heap.size w wd) := ⟨below_then HBb.out HBb.out.size hld⟩
                                have HOd := Aside0.mk (Kd.R_below HOb.out hld)
                                rw [← hwd]
                                clear hwd hld y0 y1 y2 y3 y4 y5 y6 y7 y5' z4
                                obtain ⟨y0, y1, y2, y3, y4, y5, y6, y7⟩ := cells_event HBX2.out
                                go_wp2_with ((with_reducible refine gate_builtin (b := .append) (xs := #[.tmp 164, .tmp 166]) rfl ?_); at_builtin; refine Kd.R_append k33 (w0 := w) w.heap.size rfl (.tmp 164) (.tmp 166) 22 33 (.agg #[(.int .i64 0), (.int .i64 0), (.int .i64 0), (.int .i64 0), (.int .i64 0), (.int .i64 0), (.int .i64 0), (.int .i64 0)]) 64 rfl Tryd.underlying22 info33 rfl (by decide) (by omega) u22 (restTo l q j) x [.int .i64 x.f0, .int .i64 x.f1, .int .i64 x.f2, .int .i64 x.f3, .int .i64 x.f4, .int .i64 x.f5, .int .i64 x.f6.f0, .int .i64 x.f6.f1] (fun _ => True) (fun _ => False) rfl (by first | (go_simp; done) | (go_simp; rfl)) (k33_mkM _ _ _ x) (fun _ hk => hk.elim) (fun _ _ => trivial) HOd.out HBd.out HBd.out.size ?aL ?_; (case aL => have := restTo_len l q j; omega); intro v1 w1 ho hb _ _)
                                go_roundg (gk - 1)
                                case measure => omega
                                case rel =>
                                  refine ⟨j + 1, by go_num, by omega, by omega, ⟨?_⟩, ⟨hb⟩⟩
                                  simp only [restTo]; rw [if_neg hjq, ← HTQ.out, ← HX.out, show cl t x = x by unfold cl; rw [if_neg (by omega)]]; exact ho
                          · have hj' : decide ((j : Int) < (l.length : Int)) = false := decide_eq_false (by omega)
                            obtain rfl : j = l.length := by omega
                            obtain ⟨Ar, cr, er⟩ := Kd.R_slice HO.out
                            subst er
                            have hrl := restTo_len l q l.length
                            have hLR : ∀ b f, linOf a0 a1 (restTo l q l.length) = (b, f) → history_Linear.f a0 a1 (restTo l q l.length) = some (b, f) := by
                              intro b f hbf; unfold history_Linear.f; rw [if_pos ⟨HI.out, nums_rest HN.out q _ (Nat.le_refl _)⟩, hbf]
                            have HLR := Aside0.mk hLR
                            clear hLR hrl
                            have hr := Kd.R_reads' HO.out
                            have HR1 := Aside0.mk hr.2.2
                            have HR2 := Aside0.mk hr.2.1
                            clear hr
                            rcases lin_wide (u := restTo l q l.length) HBE.out (by have := restTo_len l q l.length; omega) (fun _ => gs_rest hq HGS.out) with hwi | hwi
                            · have HLF := Aside0.mk (HLR.out true 0 hwi)
                              clear hwi HLR
                              go_wp2_with (go_at_call 10; (with_reducible refine (history_Linear.calls a0 a1 Ar cr (restTo l q l.length) true 0 _ (HT.out.below HBv.out) HR1.out HR2.out HLF.out).mono ?_); rintro e wz ⟨rfl, hb⟩; have HBz : Aside0 (Below w.heap.size w wz) := ⟨below_then HBv.out HBv.out.size hb⟩; clear hb)
                              go_ret
                              exact ⟨rfl, HBz.out⟩
                            · have HLF := Aside0.mk (HLR.out false 30 hwi)
                              clear hwi HLR
                              go_wp2_with (go_at_call 10; (with_reducible refine (history_Linear.calls a0 a1 Ar cr (restTo l q l.length) false 30 _ (HT.out.below HBv.out) HR1.out HR2.out HLF.out).mono ?_); rintro e wz ⟨rfl, hb⟩; have HBz : Aside0 (Below w.heap.size w wz) := ⟨below_then HBv.out HBv.out.size hb⟩; clear hb)
                              go_ret
                              exact ⟨rfl, HBz.out⟩
              · have hop' : (e.f5 != -1) = true := by rw [bne_iff_ne]; exact hop
                have HOP := Aside0.mk hop
                clear hop
                go_upto_region 15 with (fail)
                obtain ⟨wu, hwu⟩ : ∃ wu, wu = wk.setCell ⟨g, kk * 8 + 5, none⟩ (.int .i64 (wrap64 (e.f5 + a4))) := ⟨_, rfl⟩
                have HRu : Aside0 (Row33 wu g N (l.set kk { e with f4 := z, f5 := wrap64 (e.f5 + a4) })) := ⟨by
                  rw [hwu]
                  have := HRk.out.put kk 5 { e with f4 := z } { e with f4 := z, f5 := wrap64 (e.f5 + a4) } (.int .i64 (wrap64 (e.f5 + a4))) (by simp [hkk]) (by decide) rfl
                  rwa [List.set_set] at this⟩
                have n_ : Aside0 (Below w.heap.size w wu) := ⟨by rw [hwu]; exact HB.out.setCell (p := ⟨g, kk * 8 + 5, none⟩) HGG.out _⟩
                clear HB
                have HB := n_
                have HGu : Aside0 (rightP (l.set kk { e with f4 := z, f5 := wrap64 (e.f5 + a4) }) → Gs a0 (l.set kk { e with f4 := z, f5 := wrap64 (e.f5 + a4) }) 0 (state0 a0 a1)) := ⟨fun hru => HGS.out.wider (wider_set (e' := { e with f4 := z, f5 := wrap64 (e.f5 + a4) }) hkk (by rw [← HE.out]; exact ⟨rfl, rfl, rfl⟩) (by rw [← HE.out]) (by rw [← HE.out]; exact HBB4.out.1) (by
                  have ht := (hru kk (by simpa using hkk)).1
                  unfold timesAt at ht
                  rw [rd_set l kk kk _ hkk, if_pos rfl] at ht
                  rw [← HE.out]
                  have a := HTM.out
                  have b := HTI.out.2
                  have c := HAA.out
                  have d := HBB4.out.2
                  have f := HOP.out
                  unfold I64 at b
                  simp only at ht ⊢
                  rcases ht.2 with h | h
                  · exact .inl h
                  · refine .inr ⟨f, ?_⟩
                    have a2 : e.f4 < e.f5 := by rcases a.2 with a2 | a2; exact absurd a2 f; exact a2
                    unfold wrap64 at h ⊢
                    omega))⟩
                have HNu : Aside0 (Nums (l.set kk { e with f4 := z, f5 := wrap64 (e.f5 + a4) })) := ⟨nums_set HN.out hkk (by rw [← HE.out]; exact ⟨rfl, rfl, rfl⟩)⟩
                rw [← hwu]
                clear hwu n_ o5 o5' HRk
                obtain ⟨u, hu⟩ : ∃ u, u = l.set kk { e with f4 := z, f5 := wrap64 (e.f5 + a4) } := ⟨_, rfl⟩
                have hul : u.length = l.length := by rw [hu]; simp
                rw [← hu] at HRu HGu HNu
                have HUL := Aside0.mk hul
                obtain ⟨K2, r2, hh2⟩ := heavy_some u
                have HV2 : Aside0 (Calls Tryd.prog 8 #[.slice (some ⟨g, 0, none⟩) l.length N] wu fun e w' => e = .returned (.bool r2) ∧ Drawn0 wu w') := ⟨by
                  have hr := Kd.R_reads' (HRu.out.row HGG.out)
                  have := butlerlaw03_heavy.calls K2 (some ⟨g, 0, none⟩) N u r2 wu hr.2.2 hr.2.1 hh2
                  rwa [hul] at this⟩
                have HLU : Aside0 (∀ b f, linOf a0 a1 u = (b, f) → ∀ W, Below wu.heap.size wu W → Tab W → Calls Tryd.prog 10 #[.int .i64 a0, .int .i64 a1, .slice (some ⟨g, 0, none⟩) l.length N] W fun e w' => e = .returned (.tuple #[.bool b, .int .i64 f]) ∧ Below W.heap.size W w') := ⟨by
                  intro b f hbf W hW hT
                  have hr := Kd.R_reads' (HRu.out.row HGG.out)
                  have := history_Linear.calls a0 a1 (some ⟨g, 0, none⟩) N u b f W hT (Kd.C_below hr.2.2 hW) hr.2.1 (by unfold history_Linear.f; rw [if_pos ⟨HI.out, HNu.out⟩, hbf])
                  rwa [hul] at this⟩
                have HWI := Aside0.mk (lin_wide HBE.out (by omega) HGu.out)
                clear hu hul hh2
                cases r2 with
                | true =>
                  go_wp2_with (go_at_call 8; (with_reducible refine HV2.out.mono ?_); rintro e wm ⟨rfl, ⟨nd3, rfl⟩⟩; have n_ := Aside0.mk (pw_below_drewN HB.out nd3); clear HB; have HB := n_; clear n_)
                  go_ret
                  exact ⟨rfl, HB.out⟩
                | false =>
                  rcases HWI.out with hwi | hwi
                  · have HLu := Aside0.mk (HLU.out true 0 hwi)
                    clear hwi HLU HWI
                    go_upto_region 22 with (first
                      | (go_at_call 8; (with_reducible refine HV2.out.mono ?_); rintro e wm ⟨rfl, ⟨nd3, rfl⟩⟩; have HBm : Aside0 (Below wu.heap.size wu (wu.drewN nd3)) := ⟨pw_below_drewN (Below.refl _ _) nd3⟩; have n_ := Aside0.mk (pw_below_drewN HB.out nd3); clear HB; have HB := n_; clear n_)
                      | (go_at_call 10; (with_reducible refine (HLu.out _ HBm.out (HT.out.below HB.out)).mono ?_); rintro e wn ⟨rfl, hb⟩; have n_ := Aside0.mk (below_then HB.out HB.out.size hb); clear HB; have HB := n_; clear n_ hb))
                    go_upto_region 23 with (fail)
                    go_loopg [20, 21] (l.length + 1) (fun gk v20 v21 wr => ∃ (q i : Nat), v20 = .int .i64 q ∧ v21 = .int .i64 i ∧ q < l.length ∧ i ≤ l.length ∧ l.length - i < gk ∧ Aside0 (Below w.heap.size w wr))
                    case atStart => exact ⟨0, 0, rfl, rfl, by omega, by omega, by omega, HB⟩
                    case round =>
                      clear HB
                      obtain ⟨q, i, rfl, rfl, hq, i1, hgk, HBw⟩ := hrel
                      by_cases hlt : i < l.length
                      · have hlt' : decide ((i : Int) < (l.length : Int)) = true := decide_eq_true (by omega)
                        obtain ⟨ad, e1, x0, x1, x2, x3, x4, x5, x6, x7⟩ := at_T33 (Kd.C_below HC.out HBw.out) (i : Int) (by omega) (by omega)
                        obtain ⟨ad', e2, z0, z1, z2, z3, z4, z5, z6, z7⟩ := at_T33 (Kd.C_below HC.out HBw.out) (q : Int) (by omega) (by omega)
                        subst e1
                        obtain rfl : ad = ad' := by injection e2
                        rw [Int.toNat_natCast] at x4 z4
                        clear x0 x1 x2 x3 x5 x6 x7 z0 z1 z2 z3 z5 z6 z7 e2
                        by_cases hgt : (rd_T33 l (q : Int)).f4 < (rd_T33 l (i : Int)).f4
                        · have hgt' : decide ((rd_T33 l (q : Int)).f4 < (rd_T33 l (i : Int)).f4) = true := decide_eq_true hgt
                          go_upto_region 25 with (fail)
                          go_quiet (fail)
                          go_wp2
                          go_roundg (gk - 1)
                          case measure => omega
                          case rel => exact ⟨i, i + 1, rfl, by go_num, by omega, by omega, by omega, ⟨pw_below_drewN HBw.out _⟩⟩
                        · have hgt' : decide ((rd_T33 l (q : Int)).f4 < (rd_T33 l (i : Int)).f4) = false := decide_eq_false hgt
                          go_upto_region 25 with (fail)
                          go_quiet (fail)
                          go_wp2
                          go_roundg (gk - 1)
                          case measure => omega
                          case rel => exact ⟨q, i + 1, rfl, by go_num, by omega, by omega, by omega, ⟨pw_below_drewN HBw.out _⟩⟩
                      · have hlt' : decide ((i : Int) < (l.length : Int)) = false := decide_eq_false (by omega)
                        go_upto_region 29 with (fail)
                        obtain ⟨wo, rfl⟩ : ∃ wo : World, wo = wr := ⟨_, rfl⟩
                        obtain ⟨go, rfl⟩ : ∃ go : Nat, go = gk := ⟨_, rfl⟩
                        clear i1 hgk hlt hlt'
                        go_loopg [22, 23] (l.length + 1) (fun gj v22 v23 wr => ∃ (j : Nat), v23 = .int .i64 j ∧ j ≤ l.length ∧ l.length - j < gj ∧ Aside0 (Kd.R k33 33 wr w.heap.size (fun _ => True) v22 (restTo l q j)) ∧ Aside0 (Below w.heap.size w wr))
                        case atStart => exact ⟨0, rfl, by omega, by omega, ⟨Kd.R_nil _ _ _ _ _⟩, HBw⟩
                        case round =>
                          clear HBw
                          obtain ⟨j, rfl, j1, hgj, HO, HBv⟩ := hrel
                          by_cases hj : j < l.length
                          · have hj' : decide ((j : Int) < (l.length : Int)) = true := decide_eq_true (by omega)
                            by_cases hjq : j = q
                            · subst hjq
                              go_wp2
                              go_roundg (gk - 1)
                              case measure => omega
                              case rel =>
                                refine ⟨j + 1, by go_num, by omega, by omega, ⟨?_⟩, HBv⟩
                                simp only [restTo]; rw [if_pos trivial]; exact HO.out
                            · have hjq' : ((j : Int) == (q : Int)) = false := by rw [beq_eq_false_iff_ne]; omega
                              obtain ⟨ad, e1, x0, x1, x2, x3, x4, x5, x6, x7⟩ := at_T33 (Kd.C_below HC.out HBv.out) (j : Int) (by omega) (by omega)
                              obtain ⟨ad', e2, z0, z1, z2, z3, z4, z5, z6, z7⟩ := at_T33 (Kd.C_below HC.out HBv.out) (q : Int) (by omega) (by omega)
                              subst e1
                              obtain rfl : ad = ad' := by injection e2
                              rw [Int.toNat_natCast] at x0 x1 x2 x3 x4 x5 x6 x7 z4
                              clear z0 z1 z2 z3 z5 z6 z7 e2
                              obtain ⟨x, hx⟩ : ∃ x, x = rd_T33 l (j : Int) := ⟨_, rfl⟩
                              obtain ⟨t, ht⟩ : ∃ t, t = (rd_T33 l (q : Int)).f4 := ⟨_, rfl⟩
                              rw [← hx] at x0 x1 x2 x3 x4 x5 x6 x7
                              rw [← ht] at z4
                              have HX := Aside0.mk hx
                              have HTQ := Aside0.mk ht
                              clear hx ht
                              have zl := World.block_lt_of_cell? _ _ z4
                              go_upto_region 33 with (fail)
                              obtain ⟨wb, hwb⟩ : ∃ wb, wb = wr.alloc (.cells #[.int .i64 x.f0, .int .i64 x.f1, .int .i64 x.f2, .int .i64 x.f3, .int .i64 x.f4, .int .i64 x.f5, .int .i64 x.f6.f0, .int .i64 x.f6.f1] 33) := ⟨_, rfl⟩
                              have hlb : Below wr.heap.size wr wb := by rw [hwb]; exact below_alloc (Below.refl _ _) _
                              have HBX : Aside0 (wb.heap[wr.heap.size]? = some (oS33 x)) := ⟨by rw [hwb]; exact blk_new wr _⟩
                              have HOb := Aside0.mk (Kd.R_below HO.out hlb)
                              have HBb : Aside0 (Below w.heap.size w wb) := ⟨below_then HBv.out HBv.out.size hlb⟩
                              have HNEW : ∀ k, u22.ownBlock = some k → k < wr.heap.size := Kd.R_lt HO.out
                              have z4 := pw_cell_below hlb z4
                              have hwz := HBv.out.size
                              rw [← hwb]
                              clear hwb hlb x0 x1 x2 x3 x4 x5 x6 x7 zl HO HBv
                              obtain ⟨y0, y1, y2, y3, y4, y5, y6, y7⟩ := cells_event HBX.out
                              have y5' := blk_frozen HBX.out 5
                              by_cases hge : t ≤ x.f5
                              · have hge' : decide (t ≤ x.f5) = true := decide_eq_true hge
                                go_quiet (fail)
                                go_upto_region 35 with (fail)
                                obtain ⟨wd, hwd⟩ : ∃ wd, wd = (wb.drewN nq).setCell ⟨wr.heap.size, 5, none⟩ (.int .i64 (-1)) := ⟨_, rfl⟩
                                have HBX2 : Aside0 (wd.heap[wr.heap.size]? = some (oS33 { x with f5 := -1 })) := ⟨by
                                  rw [hwd]
                                  exact blk_put (cs := #[.int .i64 x.f0, .int .i64 x.f1, .int .i64 x.f2, .int .i64 x.f3, .int .i64 x.f4, .int .i64 x.f5, .int .i64 x.f6.f0, .int .i64 x.f6.f1]) (blk_below HBX.out (pw_below_drewN (Below.refl _ _) _)) 5 _ rfl⟩
                                have HBd : Aside0 (Below w.heap.size w wd) := ⟨by rw [hwd]; exact (pw_below_drewN HBb.out nq).setCell (p := ⟨wr.heap.size, 5, none⟩) hwz _⟩
                                have HOd : Aside0 (Kd.R k33 33 wd w.heap.size (fun _ => True) u22 (restTo l q j)) := ⟨by rw [hwd]; exact Kd.R_grown2 (Kd.R_drewN HOb.out nq) rfl (gb_set5 _ _ _ _) (by intro k hk hk2; injection hk with hk; subst hk; exact absurd (HNEW _ hk2.symm) (Nat.lt_irrefl _))⟩
                                rw [← hwd]
                                clear hwd y0 y1 y2 y3 y4 y5 y6 y7 y5' z4
                                obtain ⟨y0, y1, y2, y3, y4, y5, y6, y7⟩ := cells_event HBX2.out
                                go_wp2_with ((with_reducible refine gate_builtin (b := .append) (xs := #[.tmp 164, .tmp 166]) rfl ?_); at_builtin; refine Kd.R_append k33 (w0 := w) w.heap.size rfl (.tmp 164) (.tmp 166) 22 33 (.agg #[(.int .i64 0), (.int .i64 0), (.int .i64 0), (.int .i64 0), (.int .i64 0), (.int .i64 0), (.int .i64 0), (.int .i64 0)]) 64 rfl Tryd.underlying22 info33 rfl (by decide) (by omega) u22 (restTo l q j) ({ x with f5 := -1 } : S33) [.int .i64 x.f0, .int .i64 x.f1, .int .i64 x.f2, .int .i64 x.f3, .int .i64 x.f4, .int .i64 (-1), .int .i64 x.f6.f0, .int .i64 x.f6.f1] (fun _ => True) (fun _ => False) rfl (by first | (go_simp; done) | (go_simp; rfl)) (k33_mkM _ _ _ ({ x with f5 := -1 } : S33)) (fun _ hk => hk.elim) (fun _ _ => trivial) HOd.out HBd.out HBd.out.size ?aL ?_; (case aL => have := restTo_len l q j; omega); intro v1 w1 ho hb _ _)
                                go_roundg (gk - 1)
                                case measure => omega
                                case rel =>
                                  refine ⟨j + 1, by go_num, by omega, by omega, ⟨?_⟩, ⟨hb⟩⟩
                                  simp only [restTo]; rw [if_neg hjq, ← HTQ.out, ← HX.out, show cl t x = { x with f5 := -1 } by unfold cl; rw [if_pos hge]]; exact ho
                              · have hge' : decide (t ≤ x.f5) = false := decide_eq_false hge
                                go_quiet (fail)
                                go_upto_region 35 with (fail)
                                obtain ⟨wd, hwd⟩ : ∃ wd, wd = wb.drewN nq := ⟨_, rfl⟩
                                have hld : Below wb.heap.size wb wd := by rw [hwd]; exact pw_below_drewN (Below.refl _ _) _
                                have HBX2 := Aside0.mk (blk_below HBX.out hld)
                                have HBd : Aside0 (Below w.heap.size w wd) := ⟨below_then HBb.out HBb.out.size hld⟩
                                have HOd := Aside0.mk (Kd.R_below HOb.out hld)
                                rw [← hwd]
                                clear hwd hld y0 y1 y2 y3 y4 y5 y6 y7 y5' z4
                                obtain ⟨y0, y1, y2, y3, y4, y5, y6, y7⟩ := cells_event HBX2.out
                                go_wp2_with ((with_reducible refine gate_builtin (b := .append) (xs := #[.tmp 164, .tmp 166]) rfl ?_); at_builtin; refine Kd.R_append k33 (w0 := w) w.heap.size rfl (.tmp 164) (.tmp 166) 22 33 (.agg #[(.int .i64 0), (.int .i64 0), (.int .i64 0), (.int .i64 0), (.int .i64 0), (.int .i64 0), (.int .i64 0), (.int .i64 0)]) 64 rfl Tryd.underlying22 info33 rfl (by decide) (by omega) u22 (restTo l q j) x [.int .i64 x.f0, .int .i64 x.f1, .int .i64 x.f2, .int .i64 x.f3, .int .i64 x.f4, .int .i64 x.f5, .int .i64 x.f6.f0, .int .i64 x.f6.f1] (fun _ => True) (fun _ => False) rfl (by first | (go_simp; done) | (go_simp; rfl)) (k33_mkM _ _ _ x) (fun _ hk => hk.elim) (fun _ _ => trivial) HOd.out HBd.out HBd.out.size ?aL ?_; (case aL => have := restTo_len l q j; omega); intro v1 w1 ho hb _ _)
                                go_roundg (gk - 1)
                                case measure => omega
                                case rel =>
                                  refine ⟨j + 1, by go_num, by omega, by omega, ⟨?_⟩, ⟨hb⟩⟩
                                  simp only [restTo]; rw [if_neg hjq, ← HTQ.out, ← HX.out, show cl t x = x by unfold cl; rw [if_neg (by omega)]]; exact ho
                          · have hj' : decide ((j : Int) < (l.length : Int)) = false := decide_eq_false (by omega)
                            obtain rfl : j = l.length := by omega
                            obtain ⟨Ar, cr, er⟩ := Kd.R_slice HO.out
                            subst er
                            have hrl := restTo_len l q l.length
                            have hLR : ∀ b f, linOf a0 a1 (restTo l q l.length) = (b, f) → history_Linear.f a0 a1 (restTo l q l.length) = some (b, f) := by
                              intro b f hbf; unfold history_Linear.f; rw [if_pos ⟨HI.out, nums_rest HN.out q _ (Nat.le_refl _)⟩, hbf]
                            have HLR := Aside0.mk hLR
                            clear hLR hrl
                            have hr := Kd.R_reads' HO.out
                            have HR1 := Aside0.mk hr.2.2
                            have HR2 := Aside0.mk hr.2.1
                            clear hr
                            rcases lin_wide (u := restTo l q l.length) HBE.out (by have := restTo_len l q l.length; omega) (fun _ => gs_rest hq HGS.out) with hwi | hwi
                            · have HLF := Aside0.mk (HLR.out true 0 hwi)
                              clear hwi HLR
                              go_wp2_with (go_at_call 10; (with_reducible refine (history_Linear.calls a0 a1 Ar cr (restTo l q l.length) true 0 _ (HT.out.below HBv.out) HR1.out HR2.out HLF.out).mono ?_); rintro e wz ⟨rfl, hb⟩; have HBz : Aside0 (Below w.heap.size w wz) := ⟨below_then HBv.out HBv.out.size hb⟩; clear hb)
                              go_ret
                              exact ⟨rfl, HBz.out⟩
                            · have HLF := Aside0.mk (HLR.out false 30 hwi)
                              clear hwi HLR
                              go_wp2_with (go_at_call 10; (with_reducible refine (history_Linear.calls a0 a1 Ar cr (restTo l q l.length) false 30 _ (HT.out.below HBv.out) HR1.out HR2.out HLF.out).mono ?_); rintro e wz ⟨rfl, hb⟩; have HBz : Aside0 (Below w.heap.size w wz) := ⟨below_then HBv.out HBv.out.size hb⟩; clear hb)
                              go_ret
                              exact ⟨rfl, HBz.out⟩
                  · have HLu := Aside0.mk (HLU.out false 30 hwi)
                    clear hwi HLU HWI
                    go_upto_region 22 with (first
                      | (go_at_call 8; (with_reducible refine HV2.out.mono ?_); rintro e wm ⟨rfl, ⟨nd3, rfl⟩⟩; have HBm : Aside0 (Below wu.heap.size wu (wu.drewN nd3)) := ⟨pw_below_drewN (Below.refl _ _) nd3⟩; have n_ := Aside0.mk (pw_below_drewN HB.out nd3); clear HB; have HB := n_; clear n_)
                      | (go_at_call 10; (with_reducible refine (HLu.out _ HBm.out (HT.out.below HB.out)).mono ?_); rintro e wn ⟨rfl, hb⟩; have n_ := Aside0.mk (below_then HB.out HB.out.size hb); clear HB; have HB := n_; clear n_ hb))
                    go_upto_region 23 with (fail)
                    go_loopg [20, 21] (l.length + 1) (fun gk v20 v21 wr => ∃ (q i : Nat), v20 = .int .i64 q ∧ v21 = .int .i64 i ∧ q < l.length ∧ i ≤ l.length ∧ l.length - i < gk ∧ Aside0 (Below w.heap.size w wr))
                    case atStart => exact ⟨0, 0, rfl, rfl, by omega, by omega, by omega, HB⟩
                    case round =>
                      clear HB
                      obtain ⟨q, i, rfl, rfl, hq, i1, hgk, HBw⟩ := hrel
                      by_cases hlt : i < l.length
                      · have hlt' : decide ((i : Int) < (l.length : Int)) = true := decide_eq_true (by omega)
                        obtain ⟨ad, e1, x0, x1, x2, x3, x4, x5, x6, x7⟩ := at_T33 (Kd.C_below HC.out HBw.out) (i : Int) (by omega) (by omega)
                        obtain ⟨ad', e2, z0, z1, z2, z3, z4, z5, z6, z7⟩ := at_T33 (Kd.C_below HC.out HBw.out) (q : Int) (by omega) (by omega)
                        subst e1
                        obtain rfl : ad = ad' := by injection e2
                        rw [Int.toNat_natCast] at x4 z4
                        clear x0 x1 x2 x3 x5 x6 x7 z0 z1 z2 z3 z5 z6 z7 e2
                        by_cases hgt : (rd_T33 l (q : Int)).f4 < (rd_T33 l (i : Int)).f4
                        · have hgt' : decide ((rd_T33 l (q : Int)).f4 < (rd_T33 l (i : Int)).f4) = true := decide_eq_true hgt
                          go_upto_region 25 with (fail)
                          go_quiet (fail)
                          go_wp2
                          go_roundg (gk - 1)
                          case measure => omega
                          case rel => exact ⟨i, i + 1, rfl, by go_num, by omega, by omega, by omega, ⟨pw_below_drewN HBw.out _⟩⟩
                        · have hgt' : decide ((rd_T33 l (q : Int)).f4 < (rd_T33 l (i : Int)).f4) = false := decide_eq_false hgt
                          go_upto_region 25 with (fail)
                          go_quiet (fail)
                          go_wp2
                          go_roundg (gk - 1)
                          case measure => omega
                          case rel => exact ⟨q, i + 1, rfl, by go_num, by omega, by omega, by omega, ⟨pw_below_drewN HBw.out _⟩⟩
                      · have hlt' : decide ((i : Int) < (l.length : Int)) = false := decide_eq_false (by omega)
                        go_upto_region 29 with (fail)
                        obtain ⟨wo, rfl⟩ : ∃ wo : World, wo = wr := ⟨_, rfl⟩
                        obtain ⟨go, rfl⟩ : ∃ go : Nat, go = gk := ⟨_, rfl⟩
                        clear i1 hgk hlt hlt'
                        go_loopg [22, 23] (l.length + 1) (fun gj v22 v23 wr => ∃ (j : Nat), v23 = .int .i64 j ∧ j ≤ l.length ∧ l.length - j < gj ∧ Aside0 (Kd.R k33 33 wr w.heap.size (fun _ => True) v22 (restTo l q j)) ∧ Aside0 (Below w.heap.size w wr))
                        case atStart => exact ⟨0, rfl, by omega, by omega, ⟨Kd.R_nil _ _ _ _ _⟩, HBw⟩
                        case round =>
                          clear HBw
                          obtain ⟨j, rfl, j1, hgj, HO, HBv⟩ := hrel
                          by_cases hj : j < l.length
                          · have hj' : decide ((j : Int) < (l.length : Int)) = true := decide_eq_true (by omega)
                            by_cases hjq : j = q
                            · subst hjq
                              go_wp2
                              go_roundg (gk - 1)
                              case measure => omega
                              case rel =>
                                refine ⟨j + 1, by go_num, by omega, by omega, ⟨?_⟩, HBv⟩
                                simp only [restTo]; rw [if_pos trivial]; exact HO.out
                            · have hjq' : ((j : Int) == (q : Int)) = false := by rw [beq_eq_false_iff_ne]; omega
                              obtain ⟨ad, e1, x0, x1, x2, x3, x4, x5, x6, x7⟩ := at_T33 (Kd.C_below HC.out HBv.out) (j : Int) (by omega) (by omega)
                              obtain ⟨ad', e2, z0, z1, z2, z3, z4, z5, z6, z7⟩ := at_T33 (Kd.C_below HC.out HBv.out) (q : Int) (by omega) (by omega)
                              subst e1
                              obtain rfl : ad = ad' := by injection e2
                              rw [Int.toNat_natCast] at x0 x1 x2 x3 x4 x5 x6 x7 z4
                              clear z0 z1 z2 z3 z5 z6 z7 e2
                              obtain ⟨x, hx⟩ : ∃ x, x = rd_T33 l (j : Int) := ⟨_, rfl⟩
                              obtain ⟨t, ht⟩ : ∃ t, t = (rd_T33 l (q : Int)).f4 := ⟨_, rfl⟩
                              rw [← hx] at x0 x1 x2 x3 x4 x5 x6 x7
                              rw [← ht] at z4
                              have HX := Aside0.mk hx
                              have HTQ := Aside0.mk ht
                              clear hx ht
                              have zl := World.block_lt_of_cell? _ _ z4
                              go_upto_region 33 with (fail)
                              obtain ⟨wb, hwb⟩ : ∃ wb, wb = wr.alloc (.cells #[.int .i64 x.f0, .int .i64 x.f1, .int .i64 x.f2, .int .i64 x.f3, .int .i64 x.f4, .int .i64 x.f5, .int .i64 x.f6.f0, .int .i64 x.f6.f1] 33) := ⟨_, rfl⟩
                              have hlb : Below wr.heap.size wr wb := by rw [hwb]; exact below_alloc (Below.refl _ _) _
                              have HBX : Aside0 (wb.heap[wr.heap.size]? = some (oS33 x)) := ⟨by rw [hwb]; exact blk_new wr _⟩
                              have HOb := Aside0.mk (Kd.R_below HO.out hlb)
                              have HBb : Aside0 (Below w.heap.size w wb) := ⟨below_then HBv.out HBv.out.size hlb⟩
                              have HNEW : ∀ k, u22.ownBlock = some k → k < wr.heap.size := Kd.R_lt HO.out
                              have z4 := pw_cell_below hlb z4
                              have hwz := HBv.out.size
                              rw [← hwb]
                              clear hwb hlb x0 x1 x2 x3 x4 x5 x6 x7 zl HO HBv
                              obtain ⟨y0, y1, y2, y3, y4, y5, y6, y7⟩ := cells_event HBX.out
                              have y5' := blk_frozen HBX.out 5
                              by_cases hge : t ≤ x.f5
                              · have hge' : decide (t ≤ x.f5) = true := decide_eq_true hge
                                go_quiet (fail)
                                go_upto_region 35 with (fail)
                                obtain ⟨wd, hwd⟩ : ∃ wd, wd = (wb.drewN nq).setCell ⟨wr.heap.size, 5, none⟩ (.int .i64 (-1)) := ⟨_, rfl⟩
                                have HBX2 : Aside0 (wd.heap[wr.heap.size]? = some (oS33 { x with f5 := -1 })) := ⟨by
                                  rw [hwd]
                                  exact blk_put (cs := #[.int .i64 x.f0, .int .i64 x.f1, .int .i64 x.f2, .int .i64 x.f3, .int .i64 x.f4, .int .i64 x.f5, .int .i64 x.f6.f0, .int .i64 x.f6.f1]) (blk_below HBX.out (pw_below_drewN (Below.refl _ _) _)) 5 _ rfl⟩
                                have HBd : Aside0 (Below w.heap.size w wd) := ⟨by rw [hwd]; exact (pw_below_drewN HBb.out nq).setCell (p := ⟨wr.heap.size, 5, none⟩) hwz _⟩
                                have HOd : Aside0 (Kd.R k33 33 wd w.heap.size (fun _ => True) u22 (restTo l q j)) := ⟨by rw [hwd]; exact Kd.R_grown2 (Kd.R_drewN HOb.out nq) rfl (gb_set5 _ _ _ _) (by intro k hk hk2; injection hk with hk; subst hk; exact absurd (HNEW _ hk2.symm) (Nat.lt_irrefl _))⟩
                                rw [← hwd]
                                clear hwd y0 y1 y2 y3 y4 y5 y6 y7 y5' z4
                                obtain ⟨y0, y1, y2, y3, y4, y5, y6, y7⟩ := cells_event HBX2.out
                                go_wp2_with ((with_reducible refine gate_builtin (b := .append) (xs := #[.tmp 164, .tmp 166]) rfl ?_); at_builtin; refine Kd.R_append k33 (w0 := w) w.heap.size rfl (.tmp 164) (.tmp 166) 22 33 (.agg #[(.int .i64 0), (.int .i64 0), (.int .i64 0), (.int .i64 0), (.int .i64 0), (.int .i64 0), (.int .i64 0), (.int .i64 0)]) 64 rfl Tryd.underlying22 info33 rfl (by decide) (by omega) u22 (restTo l q j) ({ x with f5 := -1 } : S33) [.int .i64 x.f0, .int .i64 x.f1, .int .i64 x.f2, .int .i64 x.f3, .int .i64 x.f4, .int .i64 (-1), .int .i64 x.f6.f0, .int .i64 x.f6.f1] (fun _ => True) (fun _ => False) rfl (by first | (go_simp; done) | (go_simp; rfl)) (k33_mkM _ _ _ ({ x with f5 := -1 } : S33)) (fun _ hk => hk.elim) (fun _ _ => trivial) HOd.out HBd.out HBd.out.size ?aL ?_; (case aL => have := restTo_len l q j; omega); intro v1 w1 ho hb _ _)
                                go_roundg (gk - 1)
                                case measure => omega
                                case rel =>
                                  refine ⟨j + 1, by go_num, by omega, by omega, ⟨?_⟩, ⟨hb⟩⟩
                                  simp only [restTo]; rw [if_neg hjq, ← HTQ.out, ← HX.out, show cl t x = { x with f5 := -1 } by unfold cl; rw [if_pos hge]]; exact ho
                              · have hge' : decide (t ≤ x.f5) = false := decide_eq_false hge
                                go_quiet (fail)
                                go_upto_region 35 with (fail)
                                obtain ⟨wd, hwd⟩ : ∃ wd, wd = wb.drewN nq := ⟨_, rfl⟩
                                have hld : Below wb.heap.size wb wd := by rw [hwd]; exact pw_below_drewN (Below.refl _ _) _
                                have HBX2 := Aside0.mk (blk_below HBX.out hld)
                                have HBd : Aside0 (Below w.heap.size w wd) := ⟨below_then HBb.out HBb.out.size hld⟩
                                have HOd := Aside0.mk (Kd.R_below HOb.out hld)
                                rw [← hwd]
                                clear hwd hld y0 y1 y2 y3 y4 y5 y6 y7 y5' z4
                                obtain ⟨y0, y1, y2, y3, y4, y5, y6, y7⟩ := cells_event HBX2.out
                                go_wp2_with ((with_reducible refine gate_builtin (b := .append) (xs := #[.tmp 164, .tmp 166]) rfl ?_); at_builtin; refine Kd.R_append k33 (w0 := w) w.heap.size rfl (.tmp 164) (.tmp 166) 22 33 (.agg #[(.int .i64 0), (.int .i64 0), (.int .i64 0), (.int .i64 0), (.int .i64 0), (.int .i64 0), (.int .i64 0), (.int .i64 0)]) 64 rfl Tryd.underlying22 info33 rfl (by decide) (by omega) u22 (restTo l q j) x [.int .i64 x.f0, .int .i64 x.f1, .int .i64 x.f2, .int .i64 x.f3, .int .i64 x.f4, .int .i64 x.f5, .int .i64 x.f6.f0, .int .i64 x.f6.f1] (fun _ => True) (fun _ => False) rfl (by first | (go_simp; done) | (go_simp; rfl)) (k33_mkM _ _ _ x) (fun _ hk => hk.elim) (fun _ _ => trivial) HOd.out HBd.out HBd.out.size ?aL ?_; (case aL => have := restTo_len l q j; omega); intro v1 w1 ho hb _ _)
                                go_roundg (gk - 1)
                                case measure => omega
                                case rel =>
                                  refine ⟨j + 1, by go_num, by omega, by omega, ⟨?_⟩, ⟨hb⟩⟩
                                  simp only [restTo]; rw [if_neg hjq, ← HTQ.out, ← HX.out, show cl t x = x by unfold cl; rw [if_neg (by omega)]]; exact ho
                          · have hj' : decide ((j : Int) < (l.length : Int)) = false := decide_eq_false (by omega)
                            obtain rfl : j = l.length := by omega
                            obtain ⟨Ar, cr, er⟩ := Kd.R_slice HO.out
                            subst er
                            have hrl := restTo_len l q l.length
                            have hLR : ∀ b f, linOf a0 a1 (restTo l q l.length) = (b, f) → history_Linear.f a0 a1 (restTo l q l.length) = some (b, f) := by
                              intro b f hbf; unfold history_Linear.f; rw [if_pos ⟨HI.out, nums_rest HN.out q _ (Nat.le_refl _)⟩, hbf]
                            have HLR := Aside0.mk hLR
                            clear hLR hrl
                            have hr := Kd.R_reads' HO.out
                            have HR1 := Aside0.mk hr.2.2
                            have HR2 := Aside0.mk hr.2.1
                            clear hr
                            rcases lin_wide (u := restTo l q l.length) HBE.out (by have := restTo_len l q l.length; omega) (fun _ => gs_rest hq HGS.out) with hwi | hwi
                            · have HLF := Aside0.mk (HLR.out true 0 hwi)
                              clear hwi HLR
                              go_wp2_with (go_at_call 10; (with_reducible refine (history_Linear.calls a0 a1 Ar cr (restTo l q l.length) true 0 _ (HT.out.below HBv.out) HR1.out HR2.out HLF.out).mono ?_); rintro e wz ⟨rfl, hb⟩; have HBz : Aside0 (Below w.heap.size w wz) := ⟨below_then HBv.out HBv.out.size hb⟩; clear hb)
                              go_ret
                              exact ⟨rfl, HBz.out⟩
                            · have HLF := Aside0.mk (HLR.out false 30 hwi)
                              clear hwi HLR
                              go_wp2_with (go_at_call 10; (with_reducible refine (history_Linear.calls a0 a1 Ar cr (restTo l q l.length) false 30 _ (HT.out.below HBv.out) HR1.out HR2.out HLF.out).mono ?_); rintro e wz ⟨rfl, hb⟩; have HBz : Aside0 (Below w.heap.size w wz) := ⟨below_then HBv.out HBv.out.size hb⟩; clear hb)
                              go_ret
                              exact ⟨rfl, HBz.out⟩
    · have hz' : (p2 != 0) = true := by rw [bne_iff_ne]; exact hz
      have HZ := Aside0.mk hz
      clear hz
      go_enter Tryd.func6, Tryd.ntmps6
      go_wp2_with (first
        | (go_at_call 7; (with_reducible refine (butlerlaw03_awake.calls true _ (HT.out.below HB.out) rfl).mono ?_); rintro e wa ⟨rfl, hb⟩; have n_ := Aside0.mk (below_then HB.out HB.out.size hb); clear HB; have HB := n_; clear n_ hb)
        | (go_at_call 8; (with_reducible refine (butlerlaw03_heavy.calls K1 _ _ l false _ (Kd.C_below HC.out HB.out) HCc.out HH.out).mono ?_); rintro e wb ⟨rfl, ⟨nd, rfl⟩⟩; have n_ := Aside0.mk (pw_below_drewN HB.out nd); clear HB; have HB := n_; clear n_)
        | (go_at_call 10; (with_reducible refine (history_Linear.calls a0 a1 A2 c2 l p1 p2 _ (HT.out.below HB.out) (Kd.C_below HC.out HB.out) HCc.out HL.out).mono ?_); rintro e wc ⟨rfl, hb⟩; have n_ := Aside0.mk (below_then HB.out HB.out.size hb); clear HB; have HB := n_; clear n_ hb))
      go_ret
      exact ⟨rfl, HB.out⟩
end Go.Proofs.YtakhipedjccpkaaDoor.PH
