/- The document's Linear: what its call comes to. Conditions: the numbers are those of an int. -/
import Derived.Test.YtakhipedjccpkaaDoorSd
import Derived.Test.YtakhipedjccpkaaDoorHl
namespace Go.Proofs.YtakhipedjccpkaaDoor.PH
open Says Go.RowKit Go.Proofs.YtakhipedjccpkaaDoorW.PrintWords Go.Proofs.YtakhipedjccpkaaDoorW.PrintLast Go.Proofs.YtakhipedjccpkaaDoorW.PrintMore
attribute [local go_sem] max2_int min2_int max_two min_two max_three min_three max_four min_four
set_option linter.unusedVariables false
set_option linter.unusedSimpArgs false

def nilRows (N : Nat) : Array Value := (List.replicate N (Value.slice none 0 0)).toArray
theorem nilRows_get {N j : Nat} {v : Value} (h : (nilRows N)[j]? = some v) : v = .slice none 0 0 := by
  unfold nilRows at h
  rw [List.getElem?_toArray] at h
  exact (List.mem_replicate.1 (List.mem_of_getElem? h)).2
theorem met_new {w : World} {base bm N : Nat} (hb : w.heap[bm]? = some (.cells (nilRows N) 85 (0, 0))) (hl : base ≤ bm) : MetAt w base bm N (nilRows N) (fun _ => []) :=
  ⟨hb, by simp [nilRows], hl, fun k hk => ⟨.slice none 0 0, by unfold nilRows; simp [hk], Kd.N_nil _ _ _ _ _⟩⟩
theorem nil_avoid {bm N b : Nat} (h : b ≠ bm) : Avoid bm (nilRows N) b := ⟨h, fun j v hj => by rw [nilRows_get hj]; simp [Value.ownBlock]⟩
set_option maxHeartbeats 16000000 in
set_option maxRecDepth 100000 in
theorem slin_calls (n start : Int) (A : Option Addr) (c : Nat) (l : List S33) (p1 : Bool) (p2 : Int) (w : World) (hC : Kd.C k33 w A l.length l) (hc : l.length ≤ c) (hI : I64 start) (hN : Nums l) (hp : linOf n start l = (p1, p2)) :
    Calls Tryd.prog 11 #[.int .i64 n, .int .i64 start, .slice A l.length c] w fun e w' => e = .returned (.tuple #[.bool p1, .int .i64 p2]) ∧ Below w.heap.size w w' := by
  have HC := Aside0.mk hC
  have HCc := Aside0.mk hc
  have HI := Aside0.mk hI
  have HN := Aside0.mk hN
  have HP := Aside0.mk hp
  have hmx := Kd.C_max hC
  clear hC hc hI hN hp
  go_enter Tryd.func11, Tryd.ntmps11
  go_upto_region 1 with (fail)
  go_cut [43] (fun v43 wc => v43 = .bool (decide (¬ Begun n start)) ∧ w = wc)
  case first =>
    by_cases h1 : n < 1
    · have h1' : decide (n < 1) = true := decide_eq_true h1
      have hbg : Aside0 (decide (¬ Begun n start) = true) := ⟨decide_eq_true (by unfold Begun; omega)⟩
      go_wp2
      go_meet
      case rel => exact ⟨by rw [hbg.out], rfl⟩
    by_cases h5 : 5 < n
    · have h1' : decide (n < 1) = false := decide_eq_false h1
      have h5' : decide (5 < n) = true := decide_eq_true h5
      have hbg : Aside0 (decide (¬ Begun n start) = true) := ⟨decide_eq_true (by unfold Begun; omega)⟩
      go_wp2
      go_meet
      case rel => exact ⟨by rw [hbg.out], rfl⟩
    have hn : n = 1 ∨ n = 2 ∨ n = 3 ∨ n = 4 ∨ n = 5 := by omega
    clear h1 h5
    rcases hn with rfl | rfl | rfl | rfl | rfl
    · have hbg : Aside0 (decide (¬ Begun 1 start) = false) := ⟨decide_eq_false (by unfold Begun; omega)⟩
      go_wp2
      go_meet
      case rel => exact ⟨by rw [hbg.out], rfl⟩
    · by_cases hs : start = 0
      · have hs' : (start != 0) = false := bne_eq_false_iff_eq.mpr hs
        have hbg : Aside0 (decide (¬ Begun 2 start) = false) := ⟨decide_eq_false (by unfold Begun; omega)⟩
        clear hs
        go_wp2
        go_meet
        case rel => exact ⟨by rw [hbg.out], rfl⟩
      · have hs' : (start != 0) = true := bne_iff_ne.mpr hs
        have hbg : Aside0 (decide (¬ Begun 2 start) = true) := ⟨decide_eq_true (by unfold Begun; omega)⟩
        clear hs
        go_wp2
        go_meet
        case rel => exact ⟨by rw [hbg.out], rfl⟩
    · have hbg : Aside0 (decide (¬ Begun 3 start) = false) := ⟨decide_eq_false (by unfold Begun; omega)⟩
      go_wp2
      go_meet
      case rel => exact ⟨by rw [hbg.out], rfl⟩
    · by_cases hs : start < 0
      · have hs' : decide (start < 0) = true := decide_eq_true hs
        have hbg : Aside0 (decide (¬ Begun 4 start) = true) := ⟨decide_eq_true (by unfold Begun; omega)⟩
        clear hs
        go_wp2
        go_meet
        case rel => exact ⟨by rw [hbg.out], rfl⟩
      · have hs' : decide (start < 0) = false := decide_eq_false hs
        have hbg : Aside0 (decide (¬ Begun 4 start) = false) := ⟨decide_eq_false (by unfold Begun; omega)⟩
        clear hs
        go_wp2
        go_meet
        case rel => exact ⟨by rw [hbg.out], rfl⟩
    · by_cases hs : start < 1
      · have hs' : decide (start < 1) = true := decide_eq_true hs
        have hbg : Aside0 (decide (¬ Begun 5 start) = true) := ⟨decide_eq_true (by unfold Begun; omega)⟩
        clear hs
        go_wp2
        go_meet
        case rel => exact ⟨by rw [hbg.out], rfl⟩
      · have hs' : decide (start < 1) = false := decide_eq_false hs
        by_cases ht : 1000 < start
        · have ht' : decide (1000 < start) = true := decide_eq_true ht
          have hbg : Aside0 (decide (¬ Begun 5 start) = true) := ⟨decide_eq_true (by unfold Begun; omega)⟩
          clear hs ht
          go_wp2
          go_meet
          case rel => exact ⟨by rw [hbg.out], rfl⟩
        · have ht' : decide (1000 < start) = false := decide_eq_false ht
          have hbg : Aside0 (decide (¬ Begun 5 start) = false) := ⟨decide_eq_false (by unfold Begun; omega)⟩
          clear hs ht
          go_wp2
          go_meet
          case rel => exact ⟨by rw [hbg.out], rfl⟩
  case rest =>
    obtain ⟨rfl, rfl⟩ := hcut
    obtain ⟨bg, hbg⟩ : ∃ bg, bg = decide (¬ Begun n start) := ⟨_, rfl⟩
    rw [← hbg]
    have HBG := Aside0.mk hbg
    clear hbg
    cases bg with
    | true =>
      have hE : linOf n start l = (false, 1) := by unfold linOf; rw [if_pos (of_decide_eq_true HBG.out.symm)]
      rw [hE] at HP
      obtain ⟨rfl, rfl⟩ : false = p1 ∧ (1 : Int) = p2 := ⟨congrArg Prod.fst HP.out, congrArg Prod.snd HP.out⟩
      clear hE
      go_wp2
      go_ret2
      exact ⟨rfl, Below.refl _ _⟩
    | false =>
      have HBE : Aside0 (Begun n start) := ⟨Classical.byContradiction (of_decide_eq_false HBG.out.symm)⟩
      by_cases hl : 12 < l.length
      · have hl' : decide (12 < (l.length : Int)) = true := decide_eq_true (by omega)
        have hE : linOf n start l = (false, 3) := by unfold linOf; rw [if_neg (not_not_intro HBE.out), if_pos hl]
        rw [hE] at HP
        obtain ⟨rfl, rfl⟩ : false = p1 ∧ (3 : Int) = p2 := ⟨congrArg Prod.fst HP.out, congrArg Prod.snd HP.out⟩
        clear hE
        go_wp2
        go_ret2
        exact ⟨rfl, Below.refl _ _⟩
      · have hl' : decide (12 < (l.length : Int)) = false := decide_eq_false (by omega)
        have HL := Aside0.mk hl
        have hl12 : l.length ≤ 12 := by omega
        go_upto_region 6 with (go_at_call 32; (with_reducible refine (hist_ref A c l _ HC.out hl12).mono ?_); rintro e w1 ⟨b, rfl, hbr, hb⟩; have HBR := Aside0.mk hbr; have HB := Aside0.mk hb; clear hbr hb)
        cases b with
        | false =>
          have hE : linOf n start l = (false, 30) := by unfold linOf; rw [if_neg (not_not_intro HBE.out), if_neg HL.out, if_pos (fun h => by have := HBR.out.2 h; cases this)]
          rw [hE] at HP
          obtain ⟨rfl, rfl⟩ : false = p1 ∧ (30 : Int) = p2 := ⟨congrArg Prod.fst HP.out, congrArg Prod.snd HP.out⟩
          clear hE
          go_wp2
          go_ret2
          exact ⟨rfl, HB.out⟩
        | true =>
          have hmk : ∀ W : World, (Instr.makeSlice 81 (.int .i64 (wrap64 (2 ^ l.length))) (.int .i64 (wrap64 (2 ^ l.length)))).run Tryd.prog W = .ok (.slice (some ⟨W.heap.size, 0, none⟩) (2 ^ l.length) (2 ^ l.length)) (W.alloc (.cells (nilRows (2 ^ l.length)) 85)) := by
            intro W
            have h2 : 2 ^ l.length ≤ 2 ^ 12 := Nat.pow_le_pow_right (by decide) hl12
            have h3 : ((2 : Int) ^ l.length) = ((2 ^ l.length : Nat) : Int) := by simp
            have hw : wrap64 ((2 : Int) ^ l.length) = ((2 ^ l.length : Nat) : Int) := by
              rw [h3]
              generalize 2 ^ l.length = q at h2
              exact wrap_i64 (by unfold I64; omega)
            rw [hw]
            have info85 : (Tryd.prog.info? 85).map (fun i => (i.zero, i.size, i.bytes)) = some (some (.slice none 0 0), 1, 24) := by kernel_rfl
            obtain ⟨i0, hi, hzz⟩ := Option.map_eq_some_iff.1 info85
            simp only [Prod.mk.injEq] at hzz
            obtain ⟨hz0, hz1, hz2⟩ := hzz
            generalize 2 ^ l.length = q at h2
            have := run_make (P := Tryd.prog) (w := W) 81 85 i0 _ Tryd.underlying81 hi hz0 .i64 .i64 (q : Int) (q : Int) (by omega) (by omega) (by rw [hz2]; omega) (by omega)
            rw [this, hz1]
            have e : madeCells (Value.cells (Value.slice none 0 0)) ((q : Int).toNat * 1) = nilRows q := by
              apply Array.toList_inj.1
              rw [Nat.mul_one, Int.toNat_natCast]
              exact toList_madeCells_one _ q
            rw [e, Int.toNat_natCast]
          go_upto_region 9 with (fail)
          obtain ⟨wm, hwm⟩ : ∃ wm, wm = w1.alloc (.cells (nilRows (2 ^ l.length)) 85) := ⟨_, rfl⟩
          have hsm : wm.heap.size = w1.heap.size + 1 := by rw [hwm]; simp
          have hm1 : wm.heap[w1.heap.size]? = some (.cells (nilRows (2 ^ l.length)) 85 (0, 0)) := by rw [hwm]; exact blk_new w1 _
          have hb1m : Below w1.heap.size w1 wm := by rw [hwm]; exact below_alloc (Below.refl _ _) _
          rw [← hwm]
          obtain ⟨wb, hwb⟩ : ∃ wb, wb = wm.alloc (.cells #[.int .i64 n, .int .i64 start, .slice A l.length c, .slice (some ⟨w1.heap.size, 0, none⟩) (2 ^ l.length) (2 ^ l.length)] 83) := ⟨_, rfl⟩
          have hx1 : SX n start l A c (w1.heap.size + 1) w1.heap.size (2 ^ l.length) wb := by rw [hwb, ← hsm]; exact blk_new wm _
          have hmb : Below wm.heap.size wm wb := by rw [hwb]; exact below_alloc (Below.refl _ _) _
          rw [← hwb]
          have HM : Aside0 (MetAt wb w.heap.size w1.heap.size (2 ^ l.length) (nilRows (2 ^ l.length)) (fun _ => [])) := ⟨met_new (blk_below hm1 hmb) HB.out.size⟩
          have HX := Aside0.mk hx1
          have HBb : Aside0 (Below w.heap.size w wb) := ⟨below_then (below_then HB.out HB.out.size hb1m) (Nat.le_trans HB.out.size hb1m.size) hmb⟩
          have HLT : Aside0 (w1.heap.size < wb.heap.size) := ⟨blk_lt (blk_below hm1 hmb)⟩
          have hE : p1 = @decide (Gs n l 0 (state0 n start)) (Classical.propDecidable _) ∧ (0 : Int) = p2 := by
            have hE : linOf n start l = (@decide (Gs n l 0 (state0 n start)) (Classical.propDecidable _), 0) := by unfold linOf; rw [if_neg (not_not_intro HBE.out), if_neg HL.out, if_neg (not_not_intro (HBR.out.1 rfl))]
            rw [hE] at HP
            exact ⟨(congrArg Prod.fst HP.out).symm, congrArg Prod.snd HP.out⟩
          obtain ⟨hE1, rfl⟩ := hE
          have HE1 := Aside0.mk hE1
          have HSG : Aside0 (∀ W As cs, Below wb.heap.size wb W → Kd.V (Kd.int .i64) 3 W 0 (fun b => wb.heap.size ≤ b) (.slice As (state0 n start).length cs) (state0 n start) → Calls Tryd.prog 33 #[.pointer (some ⟨w1.heap.size + 1, 0, none⟩), .int .i64 0, .slice As (state0 n start).length cs] W (fun e w' => e = .returned (.bool p1) ∧ Below w.heap.size w w')) := ⟨by
            intro W As cs hW hV
            have hml : (miss l 0).length ≤ 12 := Nat.le_trans (missTo_len l 0 l.length) hl12
            refine (sgoes_calls hl12 HCc.out HN.out HC.out (miss l 0).length 0 (state0 n start) As cs (nilRows (2 ^ l.length)) (fun _ => []) 0 W rfl (Nat.two_pow_pos _) (state0_ok HBE.out HI.out hml) (flags0 HBE.out) ?_ (blk_below HX.out hW) (nil_avoid (by omega)) (HM.out.below hW) (below_then HBb.out HBb.out.size hW) (fun _ => Nat.le_refl _) (by have := tries_12' _ hml; omega) (fun k s _ h => by cases h)).mono ?_
            · exact Kd.V_mono hV (fun b hb => nil_avoid (by have := HLT.out; omega))
            · rintro e w' ⟨r, arr', M', cnt', rfl, _, _, h3, _, _, h6, h7⟩
              refine ⟨?_, h3⟩
              have hr : r = p1 := by
                rw [HE1.out]
                cases r with
                | true => exact (@decide_eq_true _ (Classical.propDecidable _) (h6 rfl)).symm
                | false => exact (@decide_eq_false _ (Classical.propDecidable _) (h7 rfl).1).symm
              rw [hr]⟩
          have HF := Aside0.mk (first_some HBE.out)
          clear hwm hwb hsm hm1 hb1m hx1 hmb hE1 hmk
          go_wp2_with (first
            | (go_at_call 19; (with_reducible refine (butlerref03_First.calls n start (state0 n start) _ HF.out).mono ?_); rintro e wf ⟨vf, rfl, hRf, hb⟩; have HVF := Aside0.mk (Kd.V_mono (Kd.R_V (base' := 0) (Kd.R_newM (M := fun k => wb.heap.size ≤ k) hRf (Nat.le_refl _) (fun k h => h))) (fun _ h => h.1)); have HBf := Aside0.mk hb; obtain ⟨Af, cf, ef⟩ := Kd.R_slice hRf; subst ef; clear hRf hb)
            | (go_at_call 33; (with_reducible refine (HSG.out _ Af cf HBf.out HVF.out).mono ?_); rintro e wz ⟨rfl, hb⟩; have HBz := Aside0.mk hb; clear hb))
          go_ret2
          exact ⟨rfl, HBz.out⟩
end Go.Proofs.YtakhipedjccpkaaDoor.PH
