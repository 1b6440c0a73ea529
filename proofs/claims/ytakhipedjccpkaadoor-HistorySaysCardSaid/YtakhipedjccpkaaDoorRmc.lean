/- The document's objects (butlerref03.Ways): what their calls tell. Conditions: none beyond what each statement names. -/
import Derived.Test.YtakhipedjccpkaaDoorHh
import Derived.Test.YtakhipedjccpkaaDoorPHx11
import Derived.BigQuiet
import Derived.Deep.RegionHeld3
import Derived.StillTailTactics
import Derived.Deep.DeepCutAuto
namespace Go.Proofs.YtakhipedjccpkaaDoor.PH
open Go.RowKit Go.Proofs.YtakhipedjccpkaaDoorW.PrintWords Go.Proofs.YtakhipedjccpkaaDoorW.PrintLast Go.Proofs.YtakhipedjccpkaaDoorW.PrintMore
attribute [local go_sem] max2_int min2_int max_two min_two max_three min_three max_four min_four
set_option linter.unusedVariables false
set_option linter.unusedSimpArgs false

/-- Ways as they lie in memory: one block, the states elsewhere. -/
def WaysAt (w : World) (ok : Nat → Prop) (v : Value) : List S79 → Prop
  | [] => v = .slice none 0 0
  | [x] => ∃ g A c, v = .slice (some ⟨g, 0, none⟩) 1 1 ∧ ok g ∧ w.heap[g]? = some (.cells #[.int .i64 x.f0.f0, .int .i64 x.f0.f1, .slice A x.f1.length c] 52 (0, 0)) ∧ Kd.V (Kd.int .i64) 3 w 0 ok (.slice A x.f1.length c) x.f1
  | [x, y] => ∃ g A c B d, v = .slice (some ⟨g, 0, none⟩) 2 2 ∧ ok g ∧ w.heap[g]? = some (.cells #[.int .i64 x.f0.f0, .int .i64 x.f0.f1, .slice A x.f1.length c, .int .i64 y.f0.f0, .int .i64 y.f0.f1, .slice B y.f1.length d] 52 (0, 0)) ∧
      Kd.V (Kd.int .i64) 3 w 0 ok (.slice A x.f1.length c) x.f1 ∧ Kd.V (Kd.int .i64) 3 w 0 ok (.slice B y.f1.length d) y.f1
  | _ => False
/-- The event as it is handed over. -/
def agg33 (e : S33) : Value := .agg #[.int .i64 e.f0, .int .i64 e.f1, .int .i64 e.f2, .int .i64 e.f3, .int .i64 e.f4, .int .i64 e.f5, .int .i64 e.f6.f0, .int .i64 e.f6.f1]
def WaysPost (w : World) (ok : Nat → Prop) (ws : List S79) (e : Ending) (w' : World) : Prop := ∃ v, e = .returned v ∧ WaysAt w' (fun k => ok k ∨ w.heap.size ≤ k) v ws ∧ Below w.heap.size w w'
set_option maxHeartbeats 1000000 in
theorem ok_new (a : Int) (w : World) : Calls Tryd.prog 35 #[.int .i64 a] w fun e w' => e = .returned (.agg #[.int .i64 0, .int .i64 a]) ∧ w' = w.alloc (.cells #[.int .i64 0, .int .i64 a] 31) := by
  go_enter Tryd.func35, Tryd.ntmps35
  go_wp2
  exact bodyPost_ret (v := .agg #[.int .i64 0, .int .i64 a]) (by simp [results, Tryd.results35, go_sem]) rfl ⟨rfl, rfl⟩
theorem V_old {w w' : World} {s : List Int} {v : Value} {P : Nat → Prop} {b : Nat} (h : Kd.V (Kd.int .i64) 3 w 0 P v s) (hb : Below w.heap.size w w') : Kd.V (Kd.int .i64) 3 w' 0 (fun k => P k ∨ b ≤ k) v s := Kd.V_mono (Kd.V_below h hb) (fun _ hk => .inl hk)
theorem V_new {w' : World} {s : List Int} {v : Value} {b : Nat} {ok : Nat → Prop} {P : Nat → Prop} (h : (Kd.int .i64).R 3 w' b ok v s) : Kd.V (Kd.int .i64) 3 w' 0 (fun k => P k ∨ b ≤ k) v s := Kd.R_V (Kd.R_mono (Kd.R_bound h) (fun _ hk => .inr hk.2.1))
theorem blk_new2 (w : World) (o o2 : Obj) : ((w.alloc o).alloc o2).heap[w.heap.size + 1]? = some o2 := by simpa using blk_new (w.alloc o) o2
theorem one_post {P : Nat → Prop} {w W : World} (hb : Below w.heap.size w W) (g : Nat) (hg : W.heap.size = g) (cv v : Int) (s : List Int) {A : Option Addr} {n c : Nat} (hn : s.length = n) (HV : Kd.V (Kd.int .i64) 3 W 0 (fun k => P k ∨ w.heap.size ≤ k) (.slice A n c) s) :
    WaysPost w P [PH.W cv v s] (.returned (.slice (some ⟨g, 0, none⟩) 1 1)) (W.alloc (.cells #[.int .i64 cv, .int .i64 v, .slice A n c] 52)) := by
  subst hg hn
  exact ⟨_, rfl, ⟨_, A, c, rfl, .inr hb.size, blk_new W _, Kd.V_alloc HV _⟩, below_alloc hb _⟩
theorem two_post {P : Nat → Prop} {w W : World} (hb : Below w.heap.size w W) (g : Nat) (hg : W.heap.size = g) (cv v cu u : Int) (s t : List Int) {A B : Option Addr} {n c m d : Nat} (hn : s.length = n) (hm : t.length = m) (HV : Kd.V (Kd.int .i64) 3 W 0 (fun k => P k ∨ w.heap.size ≤ k) (.slice A n c) s) (HU : Kd.V (Kd.int .i64) 3 W 0 (fun k => P k ∨ w.heap.size ≤ k) (.slice B m d) t) :
    WaysPost w P [PH.W cv v s, PH.W cu u t] (.returned (.slice (some ⟨g, 0, none⟩) 2 2)) (W.alloc (.cells #[.int .i64 cv, .int .i64 v, .slice A n c, .int .i64 cu, .int .i64 u, .slice B m d] 52)) := by
  subst hg hn hm
  exact ⟨_, rfl, ⟨_, A, c, B, d, rfl, .inr hb.size, blk_new W _, Kd.V_alloc HV _, Kd.V_alloc HU _⟩, below_alloc hb _⟩
theorem WaysAt.drew {w : World} {ok : Nat → Prop} {v : Value} : ∀ {ws : List S79}, WaysAt w ok v ws → WaysAt w.drew ok v ws
  | [], h => h
  | [_], ⟨g, A, c, h1, h2, h3, h4⟩ => ⟨g, A, c, h1, h2, h3, Kd.V_drew h4⟩
  | [_, _], ⟨g, A, c, B, d, h1, h2, h3, h4, h5⟩ => ⟨g, A, c, B, d, h1, h2, h3, Kd.V_drew h4, Kd.V_drew h5⟩
  | _ :: _ :: _ :: _, h => h.elim
theorem WaysPost.drew {w W : World} {ok : Nat → Prop} {ws : List S79} {e : Ending} (h : WaysPost w ok ws e W) : WaysPost w ok ws e W.drew := by
  obtain ⟨v, h1, h2, h3⟩ := h
  exact ⟨v, h1, h2.drew, below_drew1 h3⟩
set_option maxHeartbeats 4000000 in
set_option maxRecDepth 100000 in
theorem stack_ref (P : Nat → Prop) (A : Option Addr) (c : Nat) (s : List Int) (e : S33) (w : World) (hV : Kd.V (Kd.int .i64) 3 w 0 P (.slice A s.length c) s) (hs : s.length ≤ 5000) :
    Calls Tryd.prog 36 #[.slice A s.length c, agg33 e] w (WaysPost w P (wStack s e)) := by
  unfold agg33
  have HV := Aside0.mk hV
  have HB := Aside0.mk (Below.refl w.heap.size w)
  have HBX := Aside0.mk (blk_new w (oS33 e))
  obtain ⟨y0, y1, y2, y3, y4, y5, y6, y7⟩ := cells_event HBX.out
  clear hV
  by_cases h1 : e.f1 = 1
  · have h1' : (e.f1 == 1) = true := beq_iff_eq.mpr h1
    have HW : Aside0 (butlerref03_with.f s e.f2 = some (s ++ [e.f2])) := ⟨by unfold butlerref03_with.f; rw [if_pos (by simp; omega)]; simp only [Option.bind_some, List.nil_append]; rw [if_pos (by omega)]⟩
    have HE : Aside0 (wStack s e = [W 0 0 (s ++ [e.f2]), W 80 0 s]) := ⟨by unfold wStack; rw [if_pos h1]⟩
    clear h1
    go_enter Tryd.func36, Tryd.ntmps36
    go_upto_region 3 with (fail)
    obtain ⟨w2, hw2⟩ : ∃ w2, w2 = (w.alloc (.cells #[.int .i64 e.f0, .int .i64 e.f1, .int .i64 e.f2, .int .i64 e.f3, .int .i64 e.f4, .int .i64 e.f5, .int .i64 e.f6.f0, .int .i64 e.f6.f1] 33)).alloc (.cells #[.int .i64 80, .int .i64 0, .slice A s.length c] 52) := ⟨_, rfl⟩
    have HB2 : Aside0 (Below w.heap.size w w2) := ⟨by rw [hw2]; exact below_alloc (below_alloc HB.out _) _⟩
    have hz : w.heap.size + 1 < w2.heap.size := by rw [hw2]; simp
    have HBX2 : Aside0 (w2.heap[w.heap.size]? = some (oS33 e)) := ⟨by rw [hw2]; exact blk_alloc (blk_new _ _) _⟩
    have HBY : Aside0 (w2.heap[w.heap.size + 1]? = some (.cells #[.int .i64 80, .int .i64 0, .slice A s.length c] 52 (0, 0))) := ⟨by rw [hw2]; exact blk_new2 _ _ _⟩
    rw [← hw2]
    clear hw2 y0 y1 y2 y3 y4 y5 y6 y7 HBX
    obtain ⟨y0, y1, y2, y3, y4, y5, y6, y7⟩ := cells_event HBX2.out
    clear y0 y1 y3 y4 y5 y6 y7
    obtain ⟨x0, x1, x2⟩ : w2.cell? ⟨w.heap.size + 1, 0, none⟩ = some (.int .i64 80) ∧ w2.cell? ⟨w.heap.size + 1, 1, none⟩ = some (.int .i64 0) ∧ w2.cell? ⟨w.heap.size + 1, 2, none⟩ = some (.slice A s.length c) := ⟨(blk_cell HBY.out 0).trans rfl, (blk_cell HBY.out 1).trans rfl, (blk_cell HBY.out 2).trans rfl⟩
    go_region_held3 (fun w' => w'.cell? ⟨w.heap.size, 2, none⟩ = some (.int .i64 e.f2) ∧ w'.cell? ⟨w.heap.size + 1, 0, none⟩ = some (.int .i64 80) ∧ w'.cell? ⟨w.heap.size + 1, 1, none⟩ = some (.int .i64 0) ∧ w'.cell? ⟨w.heap.size + 1, 2, none⟩ = some (.slice A s.length c)) (go_keep)
      (first | (go_at_call 52; (with_reducible refine (butlerref03_with.calls _ _ s e.f2 (s ++ [e.f2]) _ (Kd.V_reads' (Kd.V_below HV.out (below_then HB2.out HB2.out.size (below_drew1 (Below.refl _ _))))).2.2 (Kd.V_reads' HV.out).2.1 HW.out).mono ?_); rintro e3 w3 ⟨v3, rfl, hR, hb⟩; obtain ⟨A3, c3, e3⟩ := Kd.R_slice hR; subst e3; have hb' := below_then (below_drew1 (Below.refl w2.heap.size w2)) (Nat.le_refl _) hb; have q0 := pw_cell_below hb' y2; have q1 := pw_cell_below hb' x0; have q2 := pw_cell_below hb' x1; have q3 := pw_cell_below hb' x2; have HR3 := Aside0.mk hR; have HB3 := Aside0.mk hb'; clear hR hb hb'))
    have hz3 := HB3.out.size
    have HV3 := HV.out
    go_wp2
    go_ret
    rw [HE.out]
    have hb3 := below_then HB2.out HB2.out.size HB3.out
    have HQ : Kd.V (Kd.int .i64) 3 w3 0 (fun k => P k ∨ w.heap.size ≤ k) (.slice A3 (s ++ [e.f2]).length c3) (s ++ [e.f2]) := V_new (Kd.R_lower HR3.out HB2.out.size)
    rw [List.length_append] at HQ
    exact two_post hb3 _ rfl 0 0 80 0 (s ++ [e.f2]) s (by simp) rfl HQ (V_old HV.out hb3)
  · have h1' : (e.f1 == 1) = false := beq_eq_false_iff_ne.mpr h1
    by_cases h2 : e.f1 = 2
    · have h2' : (e.f1 == 2) = true := beq_iff_eq.mpr h2
      by_cases h0 : s.length = 0
      · have h0' : ((s.length : Int) == 0) = true := by rw [beq_iff_eq]; omega
        have HE : Aside0 (wStack s e = [W 90 0 []]) := ⟨by unfold wStack; rw [if_neg h1, if_pos h2, if_pos h0]⟩
        obtain rfl : s = [] := List.length_eq_zero_iff.1 h0
        clear h1 h2 h0 HBX
        go_enter Tryd.func36, Tryd.ntmps36
        go_wp2
        go_ret
        rw [HE.out]
        exact one_post (W := w.alloc (oS33 e)) (below_alloc HB.out _) _ (by simp) 90 0 [] rfl (V_old HV.out (below_alloc HB.out _))
      · have h0' : ((s.length : Int) == 0) = false := by rw [beq_eq_false_iff_ne]; omega
        have HE : Aside0 (wStack s e = [W 0 (rd s ((s.length - 1 : Nat) : Int)) (s.take (s.length - 1))]) := ⟨by unfold wStack; rw [if_neg h1, if_pos h2, if_neg h0]⟩
        obtain ⟨k, hk⟩ : ∃ k, k = s.length - 1 := ⟨_, rfl⟩
        obtain ⟨ad, ea, xa⟩ := Kd.at_int (Kd.V_reads' HV.out).2.2 (k : Int) (by omega) (by omega)
        subst ea
        have p4 : IntKind.i64.wrap ((s.length : Int) - 1) = (k : Int) := by rw [i64_w, wrap_i64 (by unfold I64; omega)]; omega
        have p1 : k < s.length := by omega
        have p2 : k ≤ s.length := by omega
        have p3 : (k : Int) < (s.length : Int) := by omega
        have p5 : (k : Int) ≤ (s.length : Int) := by omega
        rw [Int.toNat_natCast] at xa
        rw [← hk] at HE
        obtain ⟨i0, hi0, _, hsz, _⟩ := info_parts info3
        have hcut := cut_to (P := Tryd.prog) 47 3 .i64 Tryd.underlying47 hi0 (some ad) s.length c (k : Int) (by omega) p5 (Kd.V_reads' HV.out).2.1
        rw [Int.toNat_natCast] at hcut
        have HK := Aside0.mk hk
        clear hk hsz hi0
        clear h1 h2 h0
        go_enter Tryd.func36, Tryd.ntmps36
        go_upto_region 7 with (fail)
        obtain ⟨w2, hw2⟩ : ∃ w2, w2 = w.alloc (.cells #[.int .i64 e.f0, .int .i64 e.f1, .int .i64 e.f2, .int .i64 e.f3, .int .i64 e.f4, .int .i64 e.f5, .int .i64 e.f6.f0, .int .i64 e.f6.f1] 33) := ⟨_, rfl⟩
        have HB2 : Aside0 (Below w.heap.size w w2) := ⟨by rw [hw2]; exact below_alloc HB.out _⟩
        have xb := pw_cell_below (show Below w.heap.size w w2 from HB2.out) xa
        rw [← hw2]
        clear hw2 y0 y1 y2 y3 y4 y5 y6 y7 HBX xa
        go_region_held3 (fun w' => w'.cell? (ad.add k) = some (.int .i64 (rd s (k : Int)))) (go_keep)
          (first | (go_at_call 35; (with_reducible refine (ok_new _ _).mono ?_); rintro e3 w3 ⟨rfl, rfl⟩))
        go_wp2
        go_ret
        rw [HE.out]
        have ht : (s.take k).length = k := by rw [List.length_take]; omega
        have hF := Kd.F_take (Kd.V_F HV.out) p2
        have HT : Kd.V (Kd.int .i64) 3 w 0 P (.slice (some ad) (s.take k).length c) (s.take k) := Kd.V_mk (by have := (Kd.V_reads' HV.out).2.1; omega) hF
        have hb3 : Below w.heap.size w (w2.alloc (.cells #[.int .i64 0, .int .i64 (rd s (k : Int))] 31)) := below_alloc HB2.out _
        have h9 := V_old (b := w.heap.size) HT hb3
        rw [ht] at h9
        exact (one_post hb3 _ (by simp) 0 (rd s (k : Int)) (s.take k) ht h9).drew
    · have h2' : (e.f1 == 2) = false := beq_eq_false_iff_ne.mpr h2
      have HE : Aside0 (wStack s e = []) := ⟨by unfold wStack; rw [if_neg h1, if_neg h2]⟩
      clear h1 h2 HBX
      go_enter Tryd.func36, Tryd.ntmps36
      go_wp2
      go_ret
      rw [HE.out]
      exact ⟨_, rfl, rfl, below_alloc HB.out _⟩
end Go.Proofs.YtakhipedjccpkaaDoor.PH
namespace Go.Proofs.YtakhipedjccpkaaDoor.PH
open Go.RowKit Go.Proofs.YtakhipedjccpkaaDoorW.PrintWords Go.Proofs.YtakhipedjccpkaaDoorW.PrintLast Go.Proofs.YtakhipedjccpkaaDoorW.PrintMore
attribute [local go_sem] max2_int min2_int max_two min_two max_three min_three max_four min_four
set_option linter.unusedVariables false
set_option linter.unusedSimpArgs false

/-- Modulo's number. -/
def modAt (a : Int) (n : Nat) : Nat := (if a.tmod (n : Int) < 0 then a.tmod (n : Int) + (n : Int) else a.tmod (n : Int)).toNat
theorem modAt_lt (a : Int) {n : Nat} (h : 0 < n) : modAt a n < n := by
  have b1 := Int.tmod_lt_of_pos a (show (0 : Int) < (n : Int) by omega)
  have b2 := Int.lt_tmod_of_pos a (show (0 : Int) < (n : Int) by omega)
  unfold modAt
  split <;> omega
theorem modAt_eq (a : Int) {n : Nat} (h : 0 < n) : ((a.tmod (n : Int) + (n : Int)).tmod (n : Int)).toNat = modAt a n := by
  have b1 := Int.tmod_lt_of_pos a (show (0 : Int) < (n : Int) by omega)
  have b2 := Int.lt_tmod_of_pos a (show (0 : Int) < (n : Int) by omega)
  unfold modAt
  split
  · rw [Int.tmod_eq_of_lt (by omega) (by omega)]
  · rw [Int.tmod_eq_emod_of_nonneg (by omega), Int.add_emod_right, Int.emod_eq_of_lt (by omega) (by omega)]
set_option maxHeartbeats 1000000 in
theorem modulo_ref (a : Int) (n : Nat) (w : World) (h0 : 0 < n) (h1 : n ≤ 1000000) : Calls Tryd.prog 22 #[.int .i64 a, .int .i64 n] w fun e w' => e = .returned (.int .i64 (modAt a n)) ∧ w = w' := by
  have b1 := Int.tmod_lt_of_pos a (show (0 : Int) < (n : Int) by omega)
  have b2 := Int.lt_tmod_of_pos a (show (0 : Int) < (n : Int) by omega)
  have hz : (n : Int) ≠ 0 := by omega
  have hz' : ((n : Int) == 0) = false := beq_eq_false_iff_ne.mpr hz
  by_cases hlt : a.tmod (n : Int) < 0
  · have hlt' : decide (a.tmod (n : Int) < 0) = true := decide_eq_true hlt
    go_enter Tryd.func22, Tryd.ntmps22
    go_wp2
    go_ret
    exact ⟨by unfold modAt; rw [if_pos hlt, Int.toNat_of_nonneg (by omega)]; rfl, rfl⟩
  · have hlt' : decide (a.tmod (n : Int) < 0) = false := decide_eq_false hlt
    go_enter Tryd.func22, Tryd.ntmps22
    go_wp2
    go_ret
    exact ⟨by unfold modAt; rw [if_neg (by omega), Int.toNat_of_nonneg (by omega)]; rfl, rfl⟩
theorem onceAt_eq {s : List Int} {q : Nat} (hl : s.length = 3 * q) (h1 : 1 ≤ q) (e : S33) : onceAt s e = 3 * modAt e.f2 q := by
  have hq : s.length / 3 = q := by omega
  unfold onceAt
  rw [hq, modAt_eq _ (by omega)]
theorem told_none {e : S33} (h : e.f1 < 1 ∨ 4 < e.f1) : onceTold e = none := by unfold onceTold; rw [if_neg (by omega), if_neg (by omega), if_neg (by omega), if_neg (by omega)]
theorem once_new {s : List Int} {k : Nat} (c v : Int) (h : k + 2 < s.length) (h0 : rd s (k : Int) = 0) :
    onceNext s k c v = ((s.set k 1).set (k + 1) c).set (k + 2) v ∧ rd (onceNext s k c v) ((k + 1 : Nat) : Int) = c ∧ rd (onceNext s k c v) ((k + 2 : Nat) : Int) = v := by
  have e : onceNext s k c v = ((s.set k 1).set (k + 1) c).set (k + 2) v := by unfold onceNext; rw [if_pos h0]
  refine ⟨e, ?_, ?_⟩
  · rw [e]; unfold rd
    rw [Int.toNat_natCast, List.getD_eq_getElem?_getD, List.getElem?_set_ne (by omega), List.getElem?_set_self (by simp; omega)]; rfl
  · rw [e]; unfold rd
    rw [Int.toNat_natCast, List.getD_eq_getElem?_getD, List.getElem?_set_self (by simp; omega)]; rfl
set_option maxHeartbeats 8000000 in
set_option maxRecDepth 100000 in
theorem onces_ref (q : Nat) (P : Nat → Prop) (A : Option Addr) (c : Nat) (s : List Int) (e : S33) (w : World) (hV : Kd.V (Kd.int .i64) 3 w 0 P (.slice A s.length c) s) (hl : s.length = 3 * q) (h1 : 1 ≤ q) (h2 : q ≤ 1000)
    (hf : rd s (onceAt s e : Int) = 0 ∨ rd s (onceAt s e : Int) = 1) :
    Calls Tryd.prog 37 #[.int .i64 q, .slice A s.length c, agg33 e] w (WaysPost w P (wOnces s e)) := by
  unfold agg33
  have HV := Aside0.mk hV
  have HB := Aside0.mk (Below.refl w.heap.size w)
  have HBX := Aside0.mk (blk_new w (oS33 e))
  obtain ⟨y0, y1, y2, y3, y4, y5, y6, y7⟩ := cells_event HBX.out
  clear hV
  by_cases ho : e.f1 < 1 ∨ 4 < e.f1
  · have HE : Aside0 (wOnces s e = []) := ⟨by unfold wOnces; rw [told_none ho]⟩
    rcases Decidable.em (e.f1 < 1) with g | g
    · have g' : decide (e.f1 < 1) = true := decide_eq_true g
      clear HBX
      go_enter Tryd.func37, Tryd.ntmps37
      go_wp2
      go_ret
      rw [HE.out]
      exact ⟨_, rfl, rfl, below_alloc HB.out _⟩
    · have g' : decide (e.f1 < 1) = false := decide_eq_false g
      have g2 : decide (4 < e.f1) = true := decide_eq_true (by omega)
      clear HBX
      go_enter Tryd.func37, Tryd.ntmps37
      go_wp2
      go_ret
      rw [HE.out]
      exact ⟨_, rfl, rfl, below_alloc HB.out _⟩
  · have g1 : decide (e.f1 < 1) = false := decide_eq_false (by omega)
    have g2 : decide (4 < e.f1) = false := decide_eq_false (by omega)
    have hk := once_at hl h1 e
    have HKE := Aside0.mk (onceAt_eq hl h1 e)
    obtain ⟨k, hk0⟩ : ∃ k, k = onceAt s e := ⟨_, rfl⟩
    obtain ⟨m, hm0⟩ : ∃ m, m = modAt e.f2 q := ⟨_, rfl⟩
    have HM := Aside0.mk hm0
    have hkm : k = 3 * m := by rw [hk0, hm0]; exact HKE.out
    rw [← hk0] at hf hk
    obtain ⟨hk1, _⟩ := hk
    obtain ⟨ad, ea, xa⟩ := Kd.at_int (Kd.V_reads' HV.out).2.2 (k : Int) (by omega) (by omega)
    subst ea
    obtain ⟨_, ea, xb⟩ := Kd.at_int (Kd.V_reads' HV.out).2.2 ((k + 1 : Nat) : Int) (by omega) (by omega)
    cases ea
    obtain ⟨_, ea, xc⟩ := Kd.at_int (Kd.V_reads' HV.out).2.2 ((k + 2 : Nat) : Int) (by omega) (by omega)
    cases ea
    rw [Int.toNat_natCast] at xa xb xc
    have e0 : IntKind.i64.wrap (3 * (m : Int)) = (k : Int) := by rw [i64_w, wrap_i64 (by unfold I64; omega)]; omega
    have e0' : wrap64 (3 * (m : Int)) = (k : Int) := by rw [← i64_w]; exact e0
    have HKO := Aside0.mk hk0
    have HKM := Aside0.mk hkm
    have p0 : (k : Int) < (s.length : Int) := by omega
    have p1 : ((k + 1 : Nat) : Int) < (s.length : Int) := by omega
    have p2 : ((k + 2 : Nat) : Int) < (s.length : Int) := by omega
    obtain ⟨k1, hk1e⟩ : ∃ k1, k1 = k + 1 := ⟨_, rfl⟩
    obtain ⟨k2, hk2e⟩ : ∃ k2, k2 = k + 2 := ⟨_, rfl⟩
    rw [← hk1e] at p1 xb
    rw [← hk2e] at p2 xc
    have HK1 := Aside0.mk hk1e
    have HK2 := Aside0.mk hk2e
    have hL := Aside0.mk hl
    have hlt := Aside0.mk hk1
    clear hk0 hm0 hkm hl hk1 hk1e hk2e
    go_enter Tryd.func37, Tryd.ntmps37
    go_upto_region 4 with (go_at_call 22; (with_reducible refine (modulo_ref e.f2 q _ (by omega) (by omega)).mono ?_); rintro e3 w3 ⟨rfl, rfl⟩; rw [← HM.out])
    obtain ⟨w2, hw2⟩ : ∃ w2, w2 = w.alloc (.cells #[.int .i64 e.f0, .int .i64 e.f1, .int .i64 e.f2, .int .i64 e.f3, .int .i64 e.f4, .int .i64 e.f5, .int .i64 e.f6.f0, .int .i64 e.f6.f1] 33) := ⟨_, rfl⟩
    have HB2 : Aside0 (Below w.heap.size w w2) := ⟨by rw [hw2]; exact below_alloc HB.out _⟩
    have HBX2 : Aside0 (w2.heap[w.heap.size]? = some (oS33 e)) := ⟨by rw [hw2]; exact blk_new _ _⟩
    have xa := pw_cell_below (show Below w.heap.size w w2 from HB2.out) xa
    have xb := pw_cell_below (show Below w.heap.size w w2 from HB2.out) xb
    have xc := pw_cell_below (show Below w.heap.size w w2 from HB2.out) xc
    rw [← hw2]
    clear hw2 y0 y1 y2 y3 y4 y5 y6 y7 HBX
    obtain ⟨y0, y1, y2, y3, y4, y5, y6, y7⟩ := cells_event HBX2.out
    rcases hf with hf | hf
    · rw [hf] at xa
      have HF := Aside0.mk hf
      clear hf
      have hz : w.heap.size < w2.heap.size := blk_lt HBX2.out
      go_upto_region 7 with (fail)
      obtain ⟨w3, hw3⟩ : ∃ w3, w3 = w2.alloc (.cells #[.int .i64 0, .int .i64 e.f3] 31) := ⟨_, rfl⟩
      have HB3 : Aside0 (Below w.heap.size w w3) := ⟨by rw [hw3]; exact below_alloc HB2.out _⟩
      have HBX3 : Aside0 (w3.heap[w.heap.size]? = some (oS33 e)) := ⟨by rw [hw3]; exact blk_alloc HBX2.out _⟩
      have HBY : Aside0 (w3.heap[w2.heap.size]? = some (.cells #[.int .i64 0, .int .i64 e.f3] 31 (0, 0))) := ⟨by rw [hw3]; exact blk_new _ _⟩
      rw [← hw3]
      clear hw3 y0 y1 y2 y3 y4 y5 y6 y7 xa xb xc
      obtain ⟨y0, y1, y2, y3, y4, y5, y6, y7⟩ := cells_event HBX3.out
      obtain ⟨b, hb⟩ : ∃ b, b = w2.heap.size := ⟨_, rfl⟩
      rw [← hb] at HBY hz
      rw [← hb]
      clear hb
      have hbw : w.heap.size ≤ b := by omega
      have HBW := Aside0.mk hbw
      have y1 := y1
      have fb := blk_frozen HBY.out
      have fb0 := fb 0
      have fb1 := fb 1
      obtain ⟨u0, u1⟩ : w3.cell? ⟨b, 0, none⟩ = some (.int .i64 0) ∧ w3.cell? ⟨b, 1, none⟩ = some (.int .i64 e.f3) := ⟨(blk_cell HBY.out 0).trans rfl, (blk_cell HBY.out 1).trans rfl⟩
      clear fb
      go_upto_block 0 with (fail)
      go_cut [8] (fun v8 wc => ∃ c v, v8 = .pointer (some ⟨b, 0, none⟩) ∧ Aside0 (onceTold e = some (c, v)) ∧ Aside0 (Below w.heap.size w wc) ∧ Aside0 (wc.heap[b]? = some (.cells #[.int .i64 c, .int .i64 v] 31 (0, 0))))
      case first =>
        have hop : e.f1 = 1 ∨ e.f1 = 2 ∨ e.f1 = 3 ∨ e.f1 = 4 := by omega
        rcases hop with g | g | g | g
        · have HT : Aside0 (onceTold e = some (0, e.f3)) := ⟨by unfold onceTold; rw [if_pos g]⟩
          have t2 : (e.f1 == 2) = false := beq_eq_false_iff_ne.mpr (by omega)
          have t3 : (e.f1 == 3) = false := beq_eq_false_iff_ne.mpr (by omega)
          have t4 : (e.f1 == 4) = false := beq_eq_false_iff_ne.mpr (by omega)
          clear g
          go_wp2
          go_meet
          exact ⟨_, _, rfl, HT, ⟨HB3.out⟩, ⟨HBY.out⟩⟩
        · have HT : Aside0 (onceTold e = some (70, e.f3)) := ⟨by unfold onceTold; rw [if_neg (by omega)]; rw [if_pos g]⟩
          have t2 : (e.f1 == 2) = true := beq_iff_eq.mpr g
          have t3 : (e.f1 == 3) = false := beq_eq_false_iff_ne.mpr (by omega)
          have t4 : (e.f1 == 4) = false := beq_eq_false_iff_ne.mpr (by omega)
          clear g
          go_wp2
          go_meet
          exact ⟨_, _, rfl, HT, ⟨HB3.out.setCell (p := ⟨b, 0, none⟩) hbw _⟩, ⟨blk_put (cs := #[.int .i64 0, .int .i64 e.f3]) HBY.out 0 _ rfl⟩⟩
        · have HT : Aside0 (onceTold e = some (71, e.f3)) := ⟨by unfold onceTold; rw [if_neg (by omega)]; rw [if_neg (by omega)]; rw [if_pos g]⟩
          have t2 : (e.f1 == 2) = false := beq_eq_false_iff_ne.mpr (by omega)
          have t3 : (e.f1 == 3) = true := beq_iff_eq.mpr g
          have t4 : (e.f1 == 4) = false := beq_eq_false_iff_ne.mpr (by omega)
          clear g
          go_wp2
          go_meet
          exact ⟨_, _, rfl, HT, ⟨HB3.out.setCell (p := ⟨b, 0, none⟩) hbw _⟩, ⟨blk_put (cs := #[.int .i64 0, .int .i64 e.f3]) HBY.out 0 _ rfl⟩⟩
        · have HT : Aside0 (onceTold e = some (70, 72)) := ⟨by unfold onceTold; rw [if_neg (by omega)]; rw [if_neg (by omega)]; rw [if_neg (by omega)]; rw [if_pos g]⟩
          have t2 : (e.f1 == 2) = false := beq_eq_false_iff_ne.mpr (by omega)
          have t3 : (e.f1 == 3) = false := beq_eq_false_iff_ne.mpr (by omega)
          have t4 : (e.f1 == 4) = true := beq_iff_eq.mpr g
          clear g
          go_wp2
          go_meet
          exact ⟨_, _, rfl, HT, ⟨(HB3.out.setCell (p := ⟨b, 0, none⟩) hbw _).setCell (p := ⟨b, 1, none⟩) hbw _⟩, ⟨blk_put (cs := #[.int .i64 70, .int .i64 e.f3]) (blk_put (cs := #[.int .i64 0, .int .i64 e.f3]) HBY.out 0 _ rfl) 1 _ rfl⟩⟩
      case rest =>
        obtain ⟨cv, v, rfl, HT, HBc, HBYc⟩ := hcut
        clear e0 e0'
        have d1 : k ≠ k1 := by have := HK1.out; omega
        have d2 : k ≠ k2 := by have := HK2.out; omega
        have d3 : k1 ≠ k2 := by have := HK1.out; have := HK2.out; omega
        clear y0 y1 y2 y3 y4 y5 y6 y7 HBX3 HBY HB3 HBX2 HB2
        have HMX := Kd.C_max (Kd.V_reads' HV.out).2.2
        go_upto_region 17 with ((with_reducible refine gate_builtin (b := .append) (xs := #[.tmp 57, .tmp 58]) rfl ?_); at_builtin; refine Kd.R_append_rows (Kd.int .i64) (w0 := w) w.heap.size rfl (.tmp 57) (.tmp 58) 47 3 (.int .i64 0) 8 rfl Tryd.underlying47 info3 rfl (by decide) (by omega) (.slice none 0 0) ([] : List Int) s _ _ _ (fun _ => True) (fun _ => False) rfl rfl (Kd.R_nil _ _ _ _ (fun _ => True)) (Kd.V_reads' (Kd.V_below HV.out HBc.out)).2.2 (fun _ _ h => h) (fun _ h => h.elim) (fun _ _ => trivial) HBc.out HBc.out.size ?aL ?_; (case aL => (have := hL.out; simp; omega)); intro v5 w5 ho hb5 hg5 hat)
        rw [List.nil_append] at ho
        obtain ⟨g, cap, e5, hgb, hgl, cells, hcells⟩ := Kd.R_form ho (by omega)
        subst e5
        have HBY5 : Aside0 (w5.heap[b]? = some (.cells #[.int .i64 cv, .int .i64 v] 31 (0, 0))) := ⟨(hg5.block b (blk_lt HBYc.out) (by simp [Value.ownBlock])).trans HBYc.out⟩
        have hne : g ≠ b := by
          rintro rfl
          rw [HBY5.out] at hcells
          injection hcells with hc
          injection hc with _ hc
          cases hc
        have hne' : b ≠ g := fun h => hne h.symm
        have HR := (Kd.R_reads' ho).2.2
        obtain ⟨_, ea, z0⟩ := Kd.at_int HR (k : Int) (by omega) p0
        injection ea with ea
        subst ea
        obtain ⟨_, ea, z1⟩ := Kd.at_int HR (k1 : Int) (by omega) p1
        injection ea with ea
        subst ea
        obtain ⟨_, ea, z2⟩ := Kd.at_int HR (k2 : Int) (by omega) p2
        injection ea with ea
        subst ea
        rw [Int.toNat_natCast, add_plain] at z0 z1 z2
        have fz := blk_frozen hcells
        have fz0 := fz k
        have fz1 := fz k1
        have fz2 := fz k2
        obtain ⟨x0, x1⟩ : w5.cell? ⟨b, 0, none⟩ = some (.int .i64 cv) ∧ w5.cell? ⟨b, 1, none⟩ = some (.int .i64 v) := ⟨(blk_cell HBY5.out 0).trans rfl, (blk_cell HBY5.out 1).trans rfl⟩
        have hkb : k ≤ 5000 := by have := hL.out; omega
        have s1 : (k : Int) + 1 = (k1 : Int) := by have := HK1.out; omega
        have s2 : (k : Int) + 2 = (k2 : Int) := by have := HK2.out; omega
        have HO := Aside0.mk ho
        have HB5 := Aside0.mk hb5
        have HGB := Aside0.mk hgb
        clear ho hb5 hg5 hat HR fz hcells HBc HBYc hgb
        go_wp2
        go_ret
        have HE : wOnces s e = [W cv v (((s.set k 1).set k1 cv).set k2 v)] := by
          obtain ⟨o1, o2, o3⟩ := once_new cv v hlt.out HF.out
          unfold wOnces
          rw [HT.out]
          simp only
          rw [← HKO.out, o2, o3, o1, HK1.out, HK2.out]
        rw [HE]
        have r3 := Kd.R_putn (Kd.R_putn (Kd.R_putn HO.out (k : Int) 1) (k1 : Int) cv) (k2 : Int) v
        rw [Int.toNat_natCast, Int.toNat_natCast, Int.toNat_natCast] at r3
        exact one_post (((HB5.out.setCell (p := ⟨g, k, none⟩) HGB.out _).setCell (p := ⟨g, k1, none⟩) HGB.out _).setCell (p := ⟨g, k2, none⟩) HGB.out _) _ (by simp) cv v _ (by simp) (V_new r3)
    · rw [hf] at xa
      have HE : Aside0 (wOnces s e = [W (rd s (k1 : Int)) (rd s (k2 : Int)) s]) := ⟨by
        unfold wOnces
        obtain ⟨⟨c, v⟩, hcv⟩ : ∃ cv, onceTold e = some cv := by
          unfold onceTold
          repeat' split
          all_goals first | exact ⟨_, rfl⟩ | omega
        rw [hcv]
        simp only [onceNext]
        rw [← HKO.out, if_neg (by rw [hf]; decide), ← HK1.out, ← HK2.out]⟩
      clear hf
      have hkb : k ≤ 5000 := by have := hL.out; have := hlt.out; clear e0 e0'; omega
      go_upto_region 5 with (fail)
      have hn : (k : Int) + 1 = (k1 : Int) ∧ (k : Int) + 2 = (k2 : Int) := by have := HK1.out; have := HK2.out; clear e0 e0'; omega
      have e1 : IntKind.i64.wrap ((k : Int) + 1) = (k1 : Int) := by rw [i64_w, wrap_i64 (by clear e0 e0' hn; unfold I64; omega)]; exact hn.1
      have e2 : IntKind.i64.wrap ((k : Int) + 2) = (k2 : Int) := by rw [i64_w, wrap_i64 (by clear e0 e0' hn; unfold I64; omega)]; exact hn.2
      clear hn
      go_region_held3 (fun w' => w'.cell? (ad.add k1) = some (.int .i64 (rd s (k1 : Int))) ∧ w'.cell? (ad.add k2) = some (.int .i64 (rd s (k2 : Int)))) (go_keep) (first | fail)
      go_wp2
      go_ret
      rw [HE.out]
      exact (one_post HB2.out _ rfl (rd s (k1 : Int)) (rd s (k2 : Int)) s rfl (V_old HV.out HB2.out)).drew
end Go.Proofs.YtakhipedjccpkaaDoor.PH
namespace Go.Proofs.YtakhipedjccpkaaDoor.PH
open Go.RowKit Go.Proofs.YtakhipedjccpkaaDoorW.PrintWords Go.Proofs.YtakhipedjccpkaaDoorW.PrintLast Go.Proofs.YtakhipedjccpkaaDoorW.PrintMore
attribute [local go_sem] max2_int min2_int max_two min_two max_three min_three max_four min_four
set_option linter.unusedVariables false
set_option linter.unusedSimpArgs false

theorem WaysAt.mono {w : World} {ok ok' : Nat → Prop} {v : Value} (hm : ∀ k, ok k → ok' k) : ∀ {ws : List S79}, WaysAt w ok v ws → WaysAt w ok' v ws
  | [], h => h
  | [_], ⟨g, A, c, h1, h2, h3, h4⟩ => ⟨g, A, c, h1, hm _ h2, h3, Kd.V_mono h4 hm⟩
  | [_, _], ⟨g, A, c, B, d, h1, h2, h3, h4, h5⟩ => ⟨g, A, c, B, d, h1, hm _ h2, h3, Kd.V_mono h4 hm, Kd.V_mono h5 hm⟩
  | _ :: _ :: _ :: _, h => h.elim
theorem WaysPost.up {w w1 w' : World} {P : Nat → Prop} {ws : List S79} {e : Ending} (h : WaysPost w1 P ws e w') (hb : Below w.heap.size w w1) : WaysPost w P ws e w' := by
  obtain ⟨v, h1, h2, h3⟩ := h
  exact ⟨v, h1, h2.mono (fun k hk => hk.imp id (fun h => Nat.le_trans hb.size h)), below_then hb hb.size h3⟩
/-- One cell of its own. -/
theorem V_one {w : World} {g : Nat} {x : Int} {P : Nat → Prop} (h : w.heap[g]? = some (.cells #[.int .i64 x] 3 (0, 0))) (hg : P g) : Kd.V (Kd.int .i64) 3 w 0 P (.slice (some ⟨g, 0, none⟩) 1 1) [x] := V_blk (xs := [x]) h hg (by simp)
theorem heap_al (w : World) (o : Obj) : (w.alloc o).heap = w.heap.push o := rfl
theorem heap_dr (w : World) : w.drew.heap = w.heap := rfl
theorem ns1 (n : Nat) : (n = n + 1) = False := by simp
theorem ns2 (n : Nat) : (n = n + 1 + 1) = False := by simp; omega
theorem ns3 (n : Nat) : (n + 1 = n + 1 + 1) = False := by simp
theorem ns4 (n : Nat) : (n + 1 = n) = False := by simp
theorem ns5 (n : Nat) : (n + 1 + 1 = n) = False := by simp; omega
theorem ns6 (n : Nat) : (n + 1 + 1 = n + 1) = False := by simp
theorem meet1 {w w2 wc : World} {v9 : Value} {b g : Nat} {x y : Int} (h1 : v9 = .pointer (some ⟨b, 0, none⟩)) (h2 : wc.heap[b]? = some (.cells #[.int .i64 0, .int .i64 x, .slice (some ⟨g, 0, none⟩) 1 1] 52 (0, 0))) (h3 : wc.heap[g]? = some (.cells #[.int .i64 y] 3 (0, 0)))
    (h4 : w.heap.size ≤ g) (h5 : Below w2.heap.size w2 wc) : ∃ b g, v9 = .pointer (some ⟨b, 0, none⟩) ∧ Aside0 (w.heap.size ≤ g) ∧ Aside0 (Below w2.heap.size w2 wc) ∧ Aside0 (wc.heap[b]? = some (.cells #[.int .i64 0, .int .i64 x, .slice (some ⟨g, 0, none⟩) 1 1] 52 (0, 0))) ∧ Aside0 (wc.heap[g]? = some (.cells #[.int .i64 y] 3 (0, 0))) :=
  ⟨b, g, h1, ⟨h4⟩, ⟨h5⟩, ⟨h2⟩, ⟨h3⟩⟩
set_option maxHeartbeats 8000000 in
set_option maxRecDepth 100000 in
theorem ways_ref1 (start : Int) (P : Nat → Prop) (A : Option Addr) (c : Nat) (x : Int) (e : S33) (w : World) (hV : Kd.V (Kd.int .i64) 3 w 0 P (.slice A 1 c) [x]) :
    Calls Tryd.prog 20 #[.int .i64 1, .int .i64 start, .slice A 1 c, agg33 e] w (WaysPost w P (wAdder [x] e)) := by
  unfold agg33
  have HV := Aside0.mk hV
  have HB := Aside0.mk (Below.refl w.heap.size w)
  obtain ⟨ad, ea, xa⟩ := Kd.at_int (Kd.V_reads' hV).2.2 0 (by omega) (by simp)
  subst ea
  rw [show ((0 : Int)).toNat = 0 from rfl, Addr.add_zero', show rd [x] 0 = x from rfl] at xa
  clear hV
  go_enter Tryd.func20, Tryd.ntmps20
  go_upto_region 3 with (fail)
  obtain ⟨w2, hw2⟩ : ∃ w2, w2 = w.alloc (.cells #[.int .i64 e.f0, .int .i64 e.f1, .int .i64 e.f2, .int .i64 e.f3, .int .i64 e.f4, .int .i64 e.f5, .int .i64 e.f6.f0, .int .i64 e.f6.f1] 33) := ⟨_, rfl⟩
  have HB2 : Aside0 (Below w.heap.size w w2) := ⟨by rw [hw2]; exact below_alloc HB.out _⟩
  have HBX2 : Aside0 (w2.heap[w.heap.size]? = some (oS33 e)) := ⟨by rw [hw2]; exact blk_new _ _⟩
  have xa := pw_cell_below (show Below w.heap.size w w2 from HB2.out) xa
  rw [← hw2]
  clear hw2
  obtain ⟨y0, y1, y2, y3, y4, y5, y6, y7⟩ := cells_event HBX2.out
  go_cut [9] (fun v9 wc => ∃ b g, v9 = .pointer (some ⟨b, 0, none⟩) ∧ Aside0 (w.heap.size ≤ g) ∧ Aside0 (Below w2.heap.size w2 wc) ∧ Aside0 (wc.heap[b]? = some (.cells #[.int .i64 0, .int .i64 x, .slice (some ⟨g, 0, none⟩) 1 1] 52 (0, 0))) ∧ Aside0 (wc.heap[g]? = some (.cells #[.int .i64 (IntKind.i64.wrap (x + e.f2))] 3 (0, 0))))
  case first =>
    have KP : Aside0 (∀ w', Below w2.heap.size w2 w' → w'.cell? ad = some (.int .i64 x) ∧ w'.cell? ⟨w.heap.size, 2, none⟩ = some (.int .i64 e.f2)) := ⟨fun w' hb => ⟨pw_cell_below hb xa, pw_cell_below hb y2⟩⟩
    go_region_held3 (fun w' => w'.cell? ad = some (.int .i64 x) ∧ w'.cell? ⟨w.heap.size, 2, none⟩ = some (.int .i64 e.f2)) ((refine KP.out _ ?_; repeat (first | exact Below.refl _ _ | apply below_alloc | apply below_drew1)))
      (first | (go_at_call 35; (with_reducible refine (ok_new _ _).mono ?_); rintro e3 w3 ⟨rfl, rfl⟩))
    all_goals
      go_wp2_with fail
      go_meet
      have hz := HB2.out.size
      exact meet1 rfl (by simp only [heap_dr, heap_al, Array.getElem?_push, Array.size_push, ns1, ns2, ns3, ns4, ns5, ns6, if_true, if_false]; rfl) (by simp only [heap_dr, heap_al, Array.getElem?_push, Array.size_push, ns1, ns2, ns3, ns4, ns5, ns6, if_true, if_false]; try rfl) (by omega) (by repeat (first | with_reducible exact Below.refl _ _ | with_reducible apply below_drew1 | with_reducible apply below_alloc))
  case rest =>
    obtain ⟨b, g, rfl, HG, HBc, HBB, HBG⟩ := hcut
    have HBX3 := Aside0.mk (blk_below HBX2.out HBc.out)
    have HB3 : Aside0 (Below w.heap.size w wc) := ⟨below_then HB2.out HB2.out.size HBc.out⟩
    clear y0 y1 y2 y3 y4 y5 y6 y7 HBX2 HBc xa HB
    obtain ⟨y0, y1, y2, y3, y4, y5, y6, y7⟩ := cells_event HBX3.out
    obtain ⟨x0, x1, x2⟩ : wc.cell? ⟨b, 0, none⟩ = some (.int .i64 0) ∧ wc.cell? ⟨b, 1, none⟩ = some (.int .i64 x) ∧ wc.cell? ⟨b, 2, none⟩ = some (.slice (some ⟨g, 0, none⟩) 1 1) := ⟨(blk_cell HBB.out 0).trans rfl, (blk_cell HBB.out 1).trans rfl, (blk_cell HBB.out 2).trans rfl⟩
    clear y0 y2 y3 y4 y5 y6 y7
    have HVG := Aside0.mk (V_one (P := fun k => P k ∨ w.heap.size ≤ k) HBG.out (.inr HG.out))
    by_cases h1 : e.f1 = 1
    · have h1' : (e.f1 == 1) = true := beq_iff_eq.mpr h1
      have HE : Aside0 (wAdder [x] e = [W 0 x [IntKind.i64.wrap (x + e.f2)]]) := ⟨by unfold wAdder; rw [if_pos h1, i64_w]; rfl⟩
      clear h1
      go_wp2
      go_ret
      rw [HE.out]
      exact one_post HB3.out _ rfl 0 x _ rfl HVG.out
    · have h1' : (e.f1 == 1) = false := beq_eq_false_iff_ne.mpr h1
      by_cases h2 : e.f1 = 2
      · have h2' : (e.f1 == 2) = true := beq_iff_eq.mpr h2
        have HE : Aside0 (wAdder [x] e = [W 0 x [IntKind.i64.wrap (x + e.f2)], W 0 (-1) [x]]) := ⟨by unfold wAdder; rw [if_neg h1, if_pos h2, i64_w]; rfl⟩
        clear h1 h2
        go_upto_region 7 with (fail)
        go_region_held3 (fun w' => w'.cell? ⟨b, 0, none⟩ = some (.int .i64 0) ∧ w'.cell? ⟨b, 1, none⟩ = some (.int .i64 x) ∧ w'.cell? ⟨b, 2, none⟩ = some (.slice (some ⟨g, 0, none⟩) 1 1)) (go_keep)
          (first | (go_at_call 35; (with_reducible refine (ok_new _ _).mono ?_); rintro e3 w3 ⟨rfl, rfl⟩))
        go_wp2
        go_ret
        rw [HE.out]
        have hb4 : Below w.heap.size w (wc.alloc (.cells #[.int .i64 0, .int .i64 (-1)] 31)) := below_alloc HB3.out _
        exact (two_post hb4 _ (by simp) 0 x 0 (-1) _ _ rfl rfl (Kd.V_alloc HVG.out _) (V_old HV.out hb4)).drew
      · have h2' : (e.f1 == 2) = false := beq_eq_false_iff_ne.mpr h2
        have HE : Aside0 (wAdder [x] e = []) := ⟨by unfold wAdder; rw [if_neg h1, if_neg h2]⟩
        clear h1 h2
        go_wp2
        go_ret
        rw [HE.out]
        exact ⟨_, rfl, rfl, HB3.out⟩
set_option maxHeartbeats 8000000 in
set_option maxRecDepth 100000 in
theorem ways_ref3 (start : Int) (P : Nat → Prop) (A : Option Addr) (c : Nat) (x : Int) (e : S33) (w : World) (hV : Kd.V (Kd.int .i64) 3 w 0 P (.slice A 1 c) [x]) :
    Calls Tryd.prog 20 #[.int .i64 3, .int .i64 start, .slice A 1 c, agg33 e] w (WaysPost w P (wCounter [x] e)) := by
  unfold agg33
  have HV := Aside0.mk hV
  have HB := Aside0.mk (Below.refl w.heap.size w)
  obtain ⟨ad, ea, xa⟩ := Kd.at_int (Kd.V_reads' hV).2.2 0 (by omega) (by simp)
  subst ea
  rw [show ((0 : Int)).toNat = 0 from rfl, Addr.add_zero', show rd [x] 0 = x from rfl] at xa
  clear hV
  go_enter Tryd.func20, Tryd.ntmps20
  go_upto_region 1 with (fail)
  obtain ⟨w2, hw2⟩ : ∃ w2, w2 = w.alloc (.cells #[.int .i64 e.f0, .int .i64 e.f1, .int .i64 e.f2, .int .i64 e.f3, .int .i64 e.f4, .int .i64 e.f5, .int .i64 e.f6.f0, .int .i64 e.f6.f1] 33) := ⟨_, rfl⟩
  have HB2 : Aside0 (Below w.heap.size w w2) := ⟨by rw [hw2]; exact below_alloc HB.out _⟩
  have HBX2 : Aside0 (w2.heap[w.heap.size]? = some (oS33 e)) := ⟨by rw [hw2]; exact blk_new _ _⟩
  have xa := pw_cell_below (show Below w.heap.size w w2 from HB2.out) xa
  rw [← hw2]
  clear hw2
  obtain ⟨y0, y1, y2, y3, y4, y5, y6, y7⟩ := cells_event HBX2.out
  by_cases h1 : e.f1 = 1
  · have h1' : (e.f1 == 1) = true := beq_iff_eq.mpr h1
    have HE : Aside0 (wCounter [x] e = [W 0 0 [IntKind.i64.wrap (x + e.f2.tmod 1000)]]) := ⟨by unfold wCounter; rw [if_pos h1, i64_w]; rfl⟩
    clear h1
    go_upto_region 12 with (fail)
    go_region_held3 (fun w' => w'.cell? ad = some (.int .i64 x) ∧ w'.cell? ⟨w.heap.size, 2, none⟩ = some (.int .i64 e.f2)) (go_keep) (first | fail)
    go_wp2
    go_ret
    rw [HE.out]
    have hb4 : Below w.heap.size w (w2.alloc (.cells #[.int .i64 (IntKind.i64.wrap (x + e.f2.tmod 1000))] 3)) := below_alloc HB2.out _
    exact (one_post hb4 _ (by simp) 0 0 _ rfl (V_one (blk_new w2 _) (.inr HB2.out.size))).drew
  · have h1' : (e.f1 == 1) = false := beq_eq_false_iff_ne.mpr h1
    by_cases h2 : e.f1 = 2
    · have h2' : (e.f1 == 2) = true := beq_iff_eq.mpr h2
      have HE : Aside0 (wCounter [x] e = [W 0 x [x]]) := ⟨by unfold wCounter; rw [if_neg h1, if_pos h2]; rfl⟩
      clear h1 h2
      go_wp2_with (go_at_call 35; (with_reducible refine (ok_new _ _).mono ?_); rintro e3 w3 ⟨rfl, rfl⟩)
      go_ret
      rw [HE.out]
      have hb4 : Below w.heap.size w (w2.alloc (.cells #[.int .i64 0, .int .i64 x] 31)) := below_alloc HB2.out _
      exact one_post hb4 _ (by simp) 0 x [x] rfl (V_old HV.out hb4)
    · have h2' : (e.f1 == 2) = false := beq_eq_false_iff_ne.mpr h2
      have HE : Aside0 (wCounter [x] e = []) := ⟨by unfold wCounter; rw [if_neg h1, if_neg h2]⟩
      clear h1 h2
      go_wp2
      go_ret
      rw [HE.out]
      exact ⟨_, rfl, rfl, HB2.out⟩
set_option maxHeartbeats 8000000 in
set_option maxRecDepth 100000 in
theorem ways_ref4 (start : Int) (P : Nat → Prop) (A : Option Addr) (c : Nat) (x : Int) (e : S33) (w : World) (hV : Kd.V (Kd.int .i64) 3 w 0 P (.slice A 1 c) [x]) (hx : 0 ≤ x) :
    Calls Tryd.prog 20 #[.int .i64 4, .int .i64 start, .slice A 1 c, agg33 e] w (WaysPost w P (wLatch [x] e)) := by
  unfold agg33
  have HV := Aside0.mk hV
  have HB := Aside0.mk (Below.refl w.heap.size w)
  obtain ⟨ad, ea, xa⟩ := Kd.at_int (Kd.V_reads' hV).2.2 0 (by omega) (by simp)
  subst ea
  rw [show ((0 : Int)).toNat = 0 from rfl, Addr.add_zero', show rd [x] 0 = x from rfl] at xa
  clear hV
  go_enter Tryd.func20, Tryd.ntmps20
  go_upto_region 1 with (fail)
  obtain ⟨w2, hw2⟩ : ∃ w2, w2 = w.alloc (.cells #[.int .i64 e.f0, .int .i64 e.f1, .int .i64 e.f2, .int .i64 e.f3, .int .i64 e.f4, .int .i64 e.f5, .int .i64 e.f6.f0, .int .i64 e.f6.f1] 33) := ⟨_, rfl⟩
  have HB2 : Aside0 (Below w.heap.size w w2) := ⟨by rw [hw2]; exact below_alloc HB.out _⟩
  have HBX2 : Aside0 (w2.heap[w.heap.size]? = some (oS33 e)) := ⟨by rw [hw2]; exact blk_new _ _⟩
  have xa := pw_cell_below (show Below w.heap.size w w2 from HB2.out) xa
  rw [← hw2]
  clear hw2
  obtain ⟨y0, y1, y2, y3, y4, y5, y6, y7⟩ := cells_event HBX2.out
  by_cases h1 : e.f1 = 1
  · have h1' : (e.f1 == 1) = true := beq_iff_eq.mpr h1
    by_cases h0 : 0 < x
    · have h0' : decide (0 < x) = true := decide_eq_true h0
      have HE : Aside0 (wLatch [x] e = [W 0 0 [wrap64 (x - 1)]]) := ⟨by unfold wLatch; rw [if_pos h1, if_pos (show 0 < rd [x] 0 from h0)]; rfl⟩
      clear h1 h0
      go_wp2
      go_ret
      rw [HE.out]
      have hb4 : Below w.heap.size w (w2.alloc (.cells #[.int .i64 (wrap64 (x - 1))] 3)) := below_alloc HB2.out _
      exact one_post (P := P) hb4 _ (by simp) 0 0 [wrap64 (x - 1)] (n := 1) rfl (V_one (P := fun k => P k ∨ w.heap.size ≤ k) (blk_new w2 _) (.inr HB2.out.size))
    · have h0' : decide (0 < x) = false := decide_eq_false h0
      have HE : Aside0 (wLatch [x] e = [W 50 0 [x]]) := ⟨by unfold wLatch; rw [if_pos h1, if_neg (show ¬ 0 < rd [x] 0 from h0), show x = 0 by omega]⟩
      clear h1 h0
      go_wp2
      go_ret
      rw [HE.out]
      exact one_post HB2.out _ (by simp) 50 0 [x] rfl (V_old HV.out HB2.out)
  · have h1' : (e.f1 == 1) = false := beq_eq_false_iff_ne.mpr h1
    by_cases h2 : e.f1 = 2
    · have h2' : (e.f1 == 2) = true := beq_iff_eq.mpr h2
      by_cases h0 : x = 0
      · have h0' : (x == 0) = true := beq_iff_eq.mpr h0
        have HE : Aside0 (wLatch [x] e = [W 0 0 [x]]) := ⟨by unfold wLatch; rw [if_neg h1, if_pos ⟨h2, h0⟩, h0]⟩
        clear h1 h2 h0
        go_wp2
        go_ret
        rw [HE.out]
        exact one_post HB2.out _ (by simp) 0 0 [x] rfl (V_old HV.out HB2.out)
      · have h0' : (x == 0) = false := beq_eq_false_iff_ne.mpr h0
        have HE : Aside0 (wLatch [x] e = []) := ⟨by unfold wLatch; rw [if_neg h1, if_neg (fun h => h0 h.2)]⟩
        clear h1 h2 h0
        go_wp2
        go_ret
        rw [HE.out]
        exact ⟨_, rfl, rfl, HB2.out⟩
    · have h2' : (e.f1 == 2) = false := beq_eq_false_iff_ne.mpr h2
      have HE : Aside0 (wLatch [x] e = []) := ⟨by unfold wLatch; rw [if_neg h1, if_neg (fun h => h2 h.1)]⟩
      clear h1 h2
      go_wp2
      go_ret
      rw [HE.out]
      exact ⟨_, rfl, rfl, HB2.out⟩
set_option maxHeartbeats 8000000 in
set_option maxRecDepth 100000 in
theorem ways_ref2 (start : Int) (P : Nat → Prop) (A : Option Addr) (c : Nat) (s : List Int) (e : S33) (w : World) (hV : Kd.V (Kd.int .i64) 3 w 0 P (.slice A s.length c) s) (hs : s.length ≤ 5000) :
    Calls Tryd.prog 20 #[.int .i64 2, .int .i64 start, .slice A s.length c, agg33 e] w (WaysPost w P (wStack s e)) := by
  have HS : Aside0 (∀ w1, Below w.heap.size w w1 → Calls Tryd.prog 36 #[.slice A s.length c, agg33 e] w1 (WaysPost w1 P (wStack s e))) := ⟨fun w1 hb => stack_ref P A c s e w1 (Kd.V_below hV hb) hs⟩
  unfold agg33 at HS ⊢
  have HB := Aside0.mk (Below.refl w.heap.size w)
  clear hV hs
  go_enter Tryd.func20, Tryd.ntmps20
  go_wp2_with (go_at_call 36; (with_reducible refine (HS.out _ (below_alloc HB.out _)).mono ?_); rintro e3 w3 hp; obtain ⟨v3, rfl, hws, hb⟩ := hp.up (below_alloc HB.out _); have HW := Aside0.mk hws; have HB3 := Aside0.mk hb; clear hp hws hb)
  go_ret
  exact ⟨_, rfl, HW.out, HB3.out⟩
set_option maxHeartbeats 8000000 in
set_option maxRecDepth 100000 in
theorem ways_ref5 (q : Nat) (P : Nat → Prop) (A : Option Addr) (c : Nat) (s : List Int) (e : S33) (w : World) (hV : Kd.V (Kd.int .i64) 3 w 0 P (.slice A s.length c) s) (hl : s.length = 3 * q) (h1 : 1 ≤ q) (h2 : q ≤ 1000)
    (hf : rd s (onceAt s e : Int) = 0 ∨ rd s (onceAt s e : Int) = 1) :
    Calls Tryd.prog 20 #[.int .i64 5, .int .i64 q, .slice A s.length c, agg33 e] w (WaysPost w P (wOnces s e)) := by
  have HS : Aside0 (∀ w1, Below w.heap.size w w1 → Calls Tryd.prog 37 #[.int .i64 q, .slice A s.length c, agg33 e] w1 (WaysPost w1 P (wOnces s e))) := ⟨fun w1 hb => onces_ref q P A c s e w1 (Kd.V_below hV hb) hl h1 h2 hf⟩
  unfold agg33 at HS ⊢
  have HB := Aside0.mk (Below.refl w.heap.size w)
  clear hV hl h1 h2 hf
  go_enter Tryd.func20, Tryd.ntmps20
  go_wp2_with (go_at_call 37; (with_reducible refine (HS.out _ (below_alloc HB.out _)).mono ?_); rintro e3 w3 hp; obtain ⟨v3, rfl, hws, hb⟩ := hp.up (below_alloc HB.out _); have HW := Aside0.mk hws; have HB3 := Aside0.mk hb; clear hp hws hb)
  go_ret
  exact ⟨_, rfl, HW.out, HB3.out⟩
/-- onces' flags. -/
def Flags (n start : Int) (s : List Int) : Prop := n = 5 → s.length = 3 * start.toNat ∧ ∀ k, rd s ((3 * k : Nat) : Int) = 0 ∨ rd s ((3 * k : Nat) : Int) = 1
theorem ways_ref (n start : Int) (P : Nat → Prop) (m : Nat) (A : Option Addr) (c : Nat) (s : List Int) (e : S33) (w : World) (hV : Kd.V (Kd.int .i64) 3 w 0 P (.slice A s.length c) s) (hs : Sok n m s) (hf : Flags n start s) :
    Calls Tryd.prog 20 #[.int .i64 n, .int .i64 start, .slice A s.length c, agg33 e] w (WaysPost w P (waysOf n s e)) := by
  rcases hs.is with en | en | en | en | en <;> subst en
  · obtain ⟨x, rfl⟩ : ∃ x, s = [x] := ⟨_, len1 (hs.one (by omega))⟩
    exact ways_ref1 start P A c x e w hV
  · exact ways_ref2 start P A c s e w hV (by have := hs.short; omega)
  · obtain ⟨x, rfl⟩ : ∃ x, s = [x] := ⟨_, len1 (hs.one (by omega))⟩
    exact ways_ref3 start P A c x e w hV
  · obtain ⟨x, rfl⟩ : ∃ x, s = [x] := ⟨_, len1 (hs.one (by omega))⟩
    exact ways_ref4 start P A c x e w hV (hs.four rfl)
  · obtain ⟨q, hq, q1, q2⟩ := hs.five rfl
    obtain ⟨f1, f2⟩ := hf rfl
    have e1 : start = (q : Int) := by omega
    subst e1
    refine ways_ref5 q P A c s e w hV hq q1 q2 ?_
    rw [onceAt_eq hq q1]
    exact f2 _
end Go.Proofs.YtakhipedjccpkaaDoor.PH
