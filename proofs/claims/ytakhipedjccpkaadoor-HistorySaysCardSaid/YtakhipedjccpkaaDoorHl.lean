/- history.Linear: what it answers. Conditions: the numbers are those of an int; the library's table stands. -/
import Derived.Test.YtakhipedjccpkaaDoorHf
import Derived.Test.YtakhipedjccpkaaDoorHr
namespace Go.Proofs.YtakhipedjccpkaaDoor.PH
open Go.RowKit Go.Proofs.YtakhipedjccpkaaDoorW.PrintWords Go.Proofs.YtakhipedjccpkaaDoorW.PrintLast Go.Proofs.YtakhipedjccpkaaDoorW.PrintMore
open Go.Maps
set_option linter.unusedVariables false
set_option linter.unusedSimpArgs false
noncomputable section
open Classical in
/-- What history.Linear tells. -/
def linOf (n start : Int) (l : List S33) : Bool × Int :=
  if ¬ Begun n start then (false, 1) else if 12 < l.length then (false, 3) else if ¬ rightP l then (false, 30) else (decide (Gs n l 0 (state0 n start)), 0)
def Nums (l : List S33) : Prop := ∀ e ∈ l, I64 e.f2 ∧ I64 e.f3
open Classical in
def history_Linear.f (a0 : Int) (a1 : Int) (l2 : List (S33)) : Option (Bool × Int) := if I64 a1 ∧ Nums l2 then some (linOf a0 a1 l2) else none
theorem gb_set (W : World) (b : Nat) (v : Value) : W.grownBy (W.setCell ⟨b, 0, none⟩ v) (some b) := ⟨rfl, rfl, rfl, by simp, fun i hi hne => Below.heap_setCell W ⟨b, 0, none⟩ v i (fun e => hne (by rw [e]))⟩
theorem miss0 (l : List S33) : ∀ i, i ≤ l.length → missTo l 0 i = l.take i
  | 0, _ => by simp [missTo]
  | i + 1, h => by
    simp only [missTo]
    rw [if_neg (by simp), miss0 l i (by omega), take33 l (by omega)]
set_option maxHeartbeats 8000000 in
set_option maxRecDepth 100000 in
theorem history_Linear.calls (a0 : Int) (a1 : Int) (A2 : Option Addr) (c2 : Nat) (l2 : List (S33)) (r1 : Bool) (r2 : Int) (w : World) (htab : Tab w) (hr2 : Kd.C k33 w A2 l2.length l2) (hc2 : l2.length ≤ c2) (h : history_Linear.f a0 a1 l2 = some (r1, r2)) :
    Calls Tryd.prog 10 #[.int .i64 a0, .int .i64 a1, .slice A2 l2.length c2] w fun e w' => e = .returned (.tuple #[.bool r1, .int .i64 r2]) ∧ Below w.heap.size w w' := by
  unfold history_Linear.f at h
  split at h
  case isFalse => cases h
  rename_i hn
  obtain ⟨hn1, hn2⟩ := hn
  replace h := Option.some.inj h
  have HRr := Aside0.mk h
  have HR2 := Aside0.mk hr2
  have HC2 := Aside0.mk hc2
  have HT := Aside0.mk htab
  have HN2 := Aside0.mk hn2
  have hmx := Kd.C_max hr2
  clear h hr2 hc2 htab hn2
  have HBX := Aside0.mk (blk_new w (.cells #[.slice A2 l2.length c2] 22))
  obtain ⟨x1, x1'⟩ := cell_of HBX.out
  by_cases hb : Begun a0 a1
  · have hd : decide (Begun a0 a1) = true := decide_eq_true hb
    have hsf := fun (a : Addr) (w : World) => run_store Tryd.prog w a (.func (.func (objFn a0)) #[] #[]) .plain rfl
    by_cases hl : 12 < l2.length
    · have hl' : decide (12 < (l2.length : Int)) = true := decide_eq_true (by omega)
      have hE : linOf a0 a1 l2 = (false, 3) := by unfold linOf; rw [if_neg (not_not_intro hb), if_pos hl]
      rw [hE] at HRr
      obtain ⟨rfl, rfl⟩ : false = r1 ∧ (3 : Int) = r2 := ⟨congrArg Prod.fst HRr.out, congrArg Prod.snd HRr.out⟩
      clear hE
      go_enter Tryd.func10, Tryd.ntmps10
      go_wp2_with (first
        | (go_at_call 24; (with_reducible refine (begun_calls a0 a1 _).mono ?_); rintro e w1 ⟨fv, A, k, c, rfl, hb1, hone, hst⟩; obtain ⟨rfl, rfl, hV⟩ := hst hb; rw [hd]; have HB1 := Aside0.mk hb1; have HBX1 := Aside0.mk (blk_below HBX.out hb1); obtain ⟨y1, y1'⟩ := cell_of HBX1.out; have y0 := blk_lt HBX1.out; have hs1 := hb1.size; clear hV hst hb1 hone))
      go_ret2
      exact ⟨rfl, (below_then (below_alloc (Below.refl _ _) _) (by simp) HB1.out).alloc (by simp at hs1; omega) _⟩
    · have hl' : decide (12 < (l2.length : Int)) = false := decide_eq_false (by omega)
      obtain ⟨K, hK⟩ := right_some (l := l2) (by omega)
      have HK := Aside0.mk hK
      clear hK
      by_cases hr : rightP l2
      · have hrd : @decide (rightP l2) (Classical.propDecidable _) = true := @decide_eq_true _ (Classical.propDecidable _) hr
        have HE : Aside0 (linOf a0 a1 l2 = (@decide (Gs a0 l2 0 (state0 a0 a1)) (Classical.propDecidable _), 0)) := ⟨by unfold linOf; rw [if_neg (not_not_intro hb), if_neg hl, if_neg (not_not_intro hr)]⟩
        rw [hrd] at HK
        go_enter Tryd.func10, Tryd.ntmps10
        go_wp2_with (first
          | (go_at_call 24; (with_reducible refine (begun_calls a0 a1 _).mono ?_); rintro e w1 ⟨fv, A, k, c, rfl, hb1, hone, hst⟩; obtain ⟨rfl, rfl, hV⟩ := hst hb; rw [hd]; have HB1 := Aside0.mk hb1; have HV1 := Aside0.mk hV; have HBX1 := Aside0.mk (blk_below HBX.out hb1); obtain ⟨y1, y1'⟩ := cell_of HBX1.out; have y0 := blk_lt HBX1.out; have hs1 := hb1.size; have HBX1a := Aside0.mk ((Below.heap_alloc w1 (.cells #[.func (.func (objFn a0)) #[] #[]] 63) _ y0).trans HBX1.out); have HF1a := Aside0.mk (blk_new w1 (.cells #[.func (.func (objFn a0)) #[] #[]] 63)); clear hV hst hb1 hone)
          | (go_at_call 25; (with_reducible refine (history_right.calls K _ _ l2 true _ ?side1 HC2.out HK.out).mono ?_); (case side1 => exact Kd.C_alloc (Kd.C_below (Kd.C_alloc HR2.out _) HB1.out) _); rintro e w3 ⟨rfl, hb3⟩; have HB3 := Aside0.mk hb3; have HBX3 := Aside0.mk (blk_below HBX1a.out hb3); have HF3 := Aside0.mk (blk_below HF1a.out hb3); obtain ⟨z1, z1'⟩ := cell_of HBX3.out; have z0 := blk_lt HBX3.out; have hs3 := hb3.size; clear hb3))
        obtain ⟨w4, hw4⟩ : ∃ w4, w4 = w3.alloc (.cells #[.int .i64 0] 3) := ⟨_, rfl⟩
        have HB4 : Aside0 (Below w.heap.size w w4) := ⟨by
          rw [hw4]
          exact (below_then ((below_then (below_alloc (Below.refl _ _) _) (by simp) HB1.out).alloc (by simp at hs1; omega) _) (by simp at hs1 ⊢; omega) HB3.out).alloc (by simp at hs1 hs3; omega) _⟩
        have h34 : Below w3.heap.size w3 w4 := by rw [hw4]; exact below_alloc (Below.refl _ _) _
        have HO4 : Aside0 (w4.heap[w3.heap.size]? = some (.cells #[.int .i64 0] 3 (0, 0))) := ⟨by rw [hw4]; exact blk_new w3 _⟩
        have HX4 := Aside0.mk (blk_below HBX3.out h34)
        have HF4 := Aside0.mk (blk_below HF3.out h34)
        have HN4 : Aside0 (w.heap.size ≤ w3.heap.size ∧ w.heap.size ≠ w3.heap.size ∧ w1.heap.size ≠ w3.heap.size) := ⟨by simp at hs1 hs3; omega⟩
        have HV4 : Aside0 (Kd.V (Kd.int .i64) 3 w4 0 (fun b => b ≠ w3.heap.size) (.slice A (state0 a0 a1).length c) (state0 a0 a1)) := ⟨by
          have v1 := Kd.V_old HV1.out (below_alloc (Below.refl _ _) (.cells #[.func (.func (objFn a0)) #[] #[]] 63))
          have v3 := Kd.V_below v1 HB3.out
          have v4 := Kd.V_below v3 h34
          refine Kd.V_mono v4 (fun b hb => ?_)
          have := hb.2
          simp at hs3; omega⟩
        rw [← hw4]
        clear hw4 h34 z1 z1' z0 y1 y1' y0 x1 x1' hs1 hs3
        go_loopg [36] (l2.length + 1) (fun gk v36 wr => ∃ (i : Nat), v36 = .int .i64 i ∧ i ≤ l2.length ∧ l2.length - i < gk ∧ Aside0 (wr.heap[w3.heap.size]? = some (.cells #[.int .i64 (overTo l2 i)] 3 (0, 0))) ∧ Aside0 (w4.grownBy wr (some w3.heap.size)))
        case atStart => exact ⟨0, rfl, by omega, by omega, HO4, ⟨World.grownBy.refl _ _⟩⟩
        case round =>
          clear HO4
          obtain ⟨i, rfl, i1, hg, HO, HG⟩ := hrel
          have HB5 : Aside0 (Below w.heap.size w wr) := ⟨HB4.out.grown HG.out HB4.out.size (by intro k hk; injection hk with hk; subst hk; exact HN4.out.1)⟩
          by_cases hlt : i < l2.length
          · have hlt' : decide ((i : Int) < (l2.length : Int)) = true := decide_eq_true (by omega)
            obtain ⟨ad, e1, g0, g1, g2, g3, g4, g5, g6, g7⟩ := at_T33 (Kd.C_below HR2.out HB5.out) (i : Int) (by omega) (by omega)
            subst e1
            rw [Int.toNat_natCast] at g0 g1 g2 g3 g4 g5 g6 g7
            obtain ⟨e, he⟩ : ∃ e, e = rd_T33 l2 (i : Int) := ⟨_, rfl⟩
            rw [← he] at g0 g1 g2 g3 g4 g5 g6 g7
            have HE := Aside0.mk he
            clear he
            go_upto_region 12 with (fail)
            obtain ⟨wb, hwb⟩ : ∃ wb, wb = wr.alloc (.cells #[.int .i64 e.f0, .int .i64 e.f1, .int .i64 e.f2, .int .i64 e.f3, .int .i64 e.f4, .int .i64 e.f5, .int .i64 e.f6.f0, .int .i64 e.f6.f1] 33) := ⟨_, rfl⟩
            have HBX : Aside0 (wb.heap[wr.heap.size]? = some (oS33 e)) := ⟨by rw [hwb]; exact blk_new wr _⟩
            have HGb : Aside0 (wr.grownBy wb none) := ⟨by rw [hwb]; exact World.grownBy_alloc _ _ _⟩
            rw [← hwb]
            clear hwb g0 g1 g2 g3 g4 g5 g6 g7
            have HOb := Aside0.mk ((HGb.out.block _ (blk_lt HO.out) (by simp)).trans HO.out)
            have HGb4 := Aside0.mk (HG.out.trans (gb_but HGb.out (some w3.heap.size)))
            obtain ⟨q0, q1, q2, q3, q4, q5, q6, q7⟩ := cells_event HBX.out
            obtain ⟨o1, o1'⟩ := cell_of HOb.out
            by_cases hf : e.f5 = -1
            · have hf' : (e.f5 != -1) = false := by rw [hf]; rfl
              have HFF := Aside0.mk hf
              clear hf
              go_wp2
              go_roundg (gk - 1)
              case measure => omega
              case rel =>
                refine ⟨i + 1, by go_num, by omega, by omega, ⟨?_⟩, HGb4⟩
                have : overTo l2 (i + 1) = overTo l2 i := by simp only [overTo]; rw [if_pos (by rw [← HE.out]; exact HFF.out)]
                rw [this]; exact HOb.out
            · have hf' : (e.f5 != -1) = true := by rw [bne_iff_ne]; exact hf
              have HFF := Aside0.mk hf
              clear hf
              go_wp2
              go_region
              have b1 : Aside0 ((wb.setCell ⟨w3.heap.size, 0, none⟩ (.int .i64 (bits .or .i64 (overTo l2 i : Int) (wrap64 (2 ^ i))))).drew.heap[w3.heap.size]? = some (.cells #[.int .i64 (overTo l2 (i + 1))] 3 (0, 0))) := ⟨by
                have h12 : l2.length ≤ 12 := by omega
                have e2 : overTo l2 (i + 1) = overTo l2 i ||| 1 <<< i := by simp only [overTo]; rw [if_neg (by rw [← HE.out]; exact HFF.out)]
                rw [or_put' (overTo_small l2 i (by omega)) (by omega), ← e2]
                exact one_setCell HOb.out⟩
              have b2 : Aside0 (w4.grownBy (wb.setCell ⟨w3.heap.size, 0, none⟩ (.int .i64 (bits .or .i64 (overTo l2 i : Int) (wrap64 (2 ^ i))))).drew (some w3.heap.size)) := ⟨(HGb4.out.trans (gb_set _ _ _)).trans (gb_but (grown_of_below (below_drew (Below.refl _ _)) none) _)⟩
              go_wp2
              go_roundg (gk - 1)
              case measure => omega
              case rel => exact ⟨i + 1, by go_num, by omega, by omega, b1, b2⟩
          · have hlt' : decide ((i : Int) < (l2.length : Int)) = false := decide_eq_false (by omega)
            obtain rfl : i = l2.length := by omega
            have hmf : ∀ (fn : Fn) (first cap : Array Value) (w : World), (Instr.makeFunc fn first cap).run Tryd.prog w = .ok (.func fn first cap) w := fun _ _ _ _ => rfl
            have hsf2 := fun (a : Addr) (c : Array Value) (w : World) => run_store Tryd.prog w a (.func (.func 26) #[] c) .plain rfl
            have hmm := @run_makeMap Tryd.prog
            go_wp2_with fail
            clear hmm hmf hsf2 hsf
            obtain ⟨w9, hw9⟩ : ∃ w9, w9 = (((wr.alloc (.map #[] 0)).alloc (.cells #[.map (some wr.heap.size)] 66)).alloc (.cells #[.func (.func 26) #[] #[ptr w3.heap.size, ptr (wr.heap.size + 1), ptr w.heap.size, ptr w1.heap.size, ptr (wr.heap.size + 1 + 1)]] 67)) := ⟨_, rfl⟩
            have q1 : Below wr.heap.size wr w9 := hw9 ▸ below_then (below_then (below_alloc (Below.refl _ _) _) (by simp) (below_alloc (Below.refl _ _) _)) (by simp; omega) (below_alloc (Below.refl _ _) _)
            have bv9 : w9.heap[wr.heap.size + 1]? = some (.cells #[.map (some wr.heap.size)] 66 (0, 0)) := by
              rw [hw9]
              have := blk_new (wr.alloc (.map #[] 0)) (.cells #[.map (some wr.heap.size)] 66)
              rw [World.size_alloc] at this
              exact (Below.heap_alloc _ _ _ (by simp)).trans this
            have bg9 : w9.heap[wr.heap.size + 1 + 1]? = some (.cells #[.func (.func 26) #[] #[ptr w3.heap.size, ptr (wr.heap.size + 1), ptr w.heap.size, ptr w1.heap.size, ptr (wr.heap.size + 1 + 1)]] 67 (0, 0)) := by
              rw [hw9]
              have := blk_new ((wr.alloc (.map #[] 0)).alloc (.cells #[.map (some wr.heap.size)] 66)) (.cells #[.func (.func 26) #[] #[ptr w3.heap.size, ptr (wr.heap.size + 1), ptr w.heap.size, ptr w1.heap.size, ptr (wr.heap.size + 1 + 1)]] 67)
              rw [World.size_alloc, World.size_alloc] at this
              exact this
            have hD9 : w9.ownsMap Tryd.prog 70 (unitElem (H := Unit)) wr.heap.size 0 (.map []) := hw9 ▸ ((World.ownsMap_made wr Tryd.prog 70 unitElem).alloc _).alloc _
            have hW9 : GW a0 l2 w A2 c2 w3.heap.size (wr.heap.size + 1) w.heap.size w1.heap.size (wr.heap.size + 1 + 1) wr.heap.size w9 := by
              refine ⟨blk_below HO.out q1, bv9, blk_below ((HG.out.block _ (blk_lt HX4.out) (by intro h; injection h with h; exact HN4.out.2.1 h)).trans HX4.out) q1, blk_below ((HG.out.block _ (blk_lt HF4.out) (by intro h; injection h with h; exact HN4.out.2.2 h)).trans HF4.out) q1, bg9, HR2.out, below_then HB5.out HB5.out.size q1, HB5.out.size⟩
            have hV9 : Kd.V (Kd.int .i64) 3 w9 0 (fun b => b ≠ wr.heap.size) (.slice A (state0 a0 a1).length c) (state0 a0 a1) := by
              have v1 := Kd.V_grown HV4.out HG.out (fun b hb h => hb (by injection h))
              exact Kd.V_mono (Kd.V_old v1 q1) (fun b hb => by have := hb.2; omega)
            have hm0 : (miss l2 0).length = l2.length := by unfold miss; rw [miss0 l2 _ (Nat.le_refl _), List.take_length]
            have hcall := goes_calls (l := l2) (w0 := w) (by omega) HC2.out HN2.out HT.out l2.length 0 (state0 a0 a1) A c (.map []) 0 w9 hm0 (by omega) (state0_ok hb hn1 (by omega)) hV9 hW9 hD9 (by have := tries_12 l2.length (by omega); omega) (by intro k s _ h; obtain ⟨kl, _, h⟩ := h; simp [Maps.has_eq] at h)
            have HCALL := Aside0.mk hcall
            have HQ1 := Aside0.mk q1
            rw [← hw9]
            clear hw9 q1 bv9 bg9 hD9 hW9 hV9 hm0 hcall
            refine HCALL.out.mono ?_
            rintro z w10 ⟨⟨r, D9, c9, rfl, h1, h2, h3, h4, h5⟩⟩
            have hrr : r = r1 ∧ (0 : Int) = r2 := by
              have e0 := HRr.out
              rw [HE.out] at e0
              have ea := congrArg Prod.fst e0
              have eb := congrArg Prod.snd e0
              simp only at ea eb
              refine ⟨?_, eb⟩
              rw [← ea]
              cases r with
              | true => exact (@decide_eq_true _ (Classical.propDecidable _) (h4 rfl)).symm
              | false => exact (@decide_eq_false _ (Classical.propDecidable _) (h5 rfl).1).symm
            obtain ⟨rfl, rfl⟩ := hrr
            have HBE : Aside0 (Below w.heap.size w w10) := ⟨(below_then HB5.out HB5.out.size HQ1.out).grown h2 (Nat.le_trans HB5.out.size HQ1.out.size) (by intro k hk; injection hk with hk; subst hk; exact HB5.out.size)⟩
            clear h1 h2 h3 h4 h5
            go_wp2
            go_ret2
            exact ⟨rfl, HBE.out⟩
      · have hrd : @decide (rightP l2) (Classical.propDecidable _) = false := @decide_eq_false _ (Classical.propDecidable _) hr
        have hE : linOf a0 a1 l2 = (false, 30) := by unfold linOf; rw [if_neg (not_not_intro hb), if_neg hl, if_pos hr]
        rw [hE] at HRr
        obtain ⟨rfl, rfl⟩ : false = r1 ∧ (30 : Int) = r2 := ⟨congrArg Prod.fst HRr.out, congrArg Prod.snd HRr.out⟩
        clear hE
        rw [hrd] at HK
        go_enter Tryd.func10, Tryd.ntmps10
        go_wp2_with (first
          | (go_at_call 24; (with_reducible refine (begun_calls a0 a1 _).mono ?_); rintro e w1 ⟨fv, A, k, c, rfl, hb1, hone, hst⟩; obtain ⟨rfl, rfl, hV⟩ := hst hb; rw [hd]; have HB1 := Aside0.mk hb1; have HBX1 := Aside0.mk (blk_below HBX.out hb1); obtain ⟨y1, y1'⟩ := cell_of HBX1.out; have y0 := blk_lt HBX1.out; have hs1 := hb1.size; clear hV hst hb1 hone)
          | (go_at_call 25; (with_reducible refine (history_right.calls K _ _ l2 false _ ?side1 HC2.out HK.out).mono ?_); (case side1 => exact Kd.C_alloc (Kd.C_below (Kd.C_alloc HR2.out _) HB1.out) _); rintro e w3 ⟨rfl, hb3⟩; have HB3 := Aside0.mk hb3; clear hb3))
        go_ret2
        exact ⟨rfl, below_then ((below_then (below_alloc (Below.refl _ _) _) (by simp) HB1.out).alloc (by simp at hs1; omega) _) (by simp at hs1 ⊢; omega) HB3.out⟩
  · have hd : decide (Begun a0 a1) = false := decide_eq_false hb
    have hE : linOf a0 a1 l2 = (false, 1) := by unfold linOf; rw [if_pos hb]
    rw [hE] at HRr
    obtain ⟨rfl, rfl⟩ : false = r1 ∧ (1 : Int) = r2 := ⟨congrArg Prod.fst HRr.out, congrArg Prod.snd HRr.out⟩
    clear hE
    by_cases n2 : a0 = 2
    · have hnf : noFn a0 = .func (.func 39) #[] #[] := by unfold noFn; rw [if_pos n2]
      have hsf := fun (a : Addr) (w : World) => run_store Tryd.prog w a (.func (.func 39) #[] #[]) .plain rfl
      clear n2
      go_enter Tryd.func10, Tryd.ntmps10
      go_wp2_with (first
        | (go_at_call 24; (with_reducible refine (begun_calls a0 a1 _).mono ?_); rintro e w1 ⟨fv, A, k, c, rfl, hb1, hone, hst⟩; obtain rfl := (hone hb).trans hnf; rw [hd]; have HB1 := Aside0.mk hb1; have hs1 := hb1.size; clear hst hb1 hone))
      go_ret2
      exact ⟨rfl, (below_then (below_alloc (Below.refl _ _) _) (by simp) HB1.out).alloc (by simp at hs1; omega) _⟩
    by_cases n4 : a0 = 4
    · have hnf : noFn a0 = .func (.func 41) #[] #[] := by unfold noFn; rw [if_neg n2, if_pos n4]
      have hsf := fun (a : Addr) (w : World) => run_store Tryd.prog w a (.func (.func 41) #[] #[]) .plain rfl
      clear n2 n4
      go_enter Tryd.func10, Tryd.ntmps10
      go_wp2_with (first
        | (go_at_call 24; (with_reducible refine (begun_calls a0 a1 _).mono ?_); rintro e w1 ⟨fv, A, k, c, rfl, hb1, hone, hst⟩; obtain rfl := (hone hb).trans hnf; rw [hd]; have HB1 := Aside0.mk hb1; have hs1 := hb1.size; clear hst hb1 hone))
      go_ret2
      exact ⟨rfl, (below_then (below_alloc (Below.refl _ _) _) (by simp) HB1.out).alloc (by simp at hs1; omega) _⟩
    · have hnf : noFn a0 = .nilFunc := by unfold noFn; rw [if_neg n2, if_neg n4]
      have hsf := fun (a : Addr) (w : World) => run_store Tryd.prog w a .nilFunc .plain rfl
      clear n2 n4
      go_enter Tryd.func10, Tryd.ntmps10
      go_wp2_with (first
        | (go_at_call 24; (with_reducible refine (begun_calls a0 a1 _).mono ?_); rintro e w1 ⟨fv, A, k, c, rfl, hb1, hone, hst⟩; obtain rfl := (hone hb).trans hnf; rw [hd]; have HB1 := Aside0.mk hb1; have hs1 := hb1.size; clear hst hb1 hone))
      go_ret2
      exact ⟨rfl, (below_then (below_alloc (Below.refl _ _) _) (by simp) HB1.out).alloc (by simp at hs1; omega) _⟩
end
end Go.Proofs.YtakhipedjccpkaaDoor.PH
