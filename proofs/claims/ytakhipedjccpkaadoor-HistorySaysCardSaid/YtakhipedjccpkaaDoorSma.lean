/- The document's search: what its small functions tell, how its state begins and goes on, and its memory of what was met in vain. Conditions: at most twelve events. -/
import Derived.Test.YtakhipedjccpkaaDoorRmc
import Derived.Test.YtakhipedjccpkaaDoorHr
import Derived.Test.YtakhipedjccpkaaDoorHd
import Derived.Deep.CutBlock
import Derived.Test.YtakhipedjccpkaaDoorPHx11
import Derived.Test.YtakhipedjccpkaaDoorHf
namespace Go.Proofs.YtakhipedjccpkaaDoor.PH
open Go.RowKit Go.Proofs.YtakhipedjccpkaaDoorW.PrintWords Go.Proofs.YtakhipedjccpkaaDoorW.PrintLast Go.Proofs.YtakhipedjccpkaaDoorW.PrintMore
attribute [local go_sem] max2_int min2_int max_two min_two max_three min_three max_four min_four
set_option linter.unusedVariables false
set_option linter.unusedSimpArgs false

set_option maxHeartbeats 4000000 in
set_option maxRecDepth 100000 in
theorem ahead_ref (x y : S33) (w : World) : Calls Tryd.prog 48 #[agg33 x, agg33 y] w fun e w' => e = .returned (.bool (aheadB x y)) ∧ Below w.heap.size w w' := by
  unfold agg33
  have HB := Aside0.mk (below_alloc (below_alloc (Below.refl w.heap.size w) (oS33 x)) (oS33 y))
  by_cases h : x.f5 = -1
  · have h' : (x.f5 != -1) = false := bne_eq_false_iff_eq.mpr h
    have HE : Aside0 (aheadB x y = false) := ⟨by unfold aheadB; rw [if_pos h]⟩
    clear h
    go_enter Tryd.func48, Tryd.ntmps48
    go_wp2
    go_ret
    exact ⟨by rw [HE.out]; rfl, HB.out⟩
  · have h' : (x.f5 != -1) = true := bne_iff_ne.mpr h
    have HE : Aside0 (aheadB x y = decide (x.f5 < y.f4)) := ⟨by unfold aheadB; rw [if_neg h]⟩
    clear h
    cases hd : decide (x.f5 < y.f4) with
    | true =>
      go_enter Tryd.func48, Tryd.ntmps48
      go_wp2
      go_ret
      exact ⟨by rw [HE.out, hd]; rfl, HB.out⟩
    | false =>
      go_enter Tryd.func48, Tryd.ntmps48
      go_wp2
      go_ret
      exact ⟨by rw [HE.out, hd]; rfl, HB.out⟩
set_option maxHeartbeats 4000000 in
set_option maxRecDepth 100000 in
theorem same_ref (A B : Option Addr) (c d : Nat) (s t : List Int) (w : World) (hs : Kd.C (Kd.int .i64) w A s.length s) (ht : Kd.C (Kd.int .i64) w B t.length t) (htl : t.length ≤ 5000) :
    Calls Tryd.prog 49 #[.slice A s.length c, .slice B t.length d] w fun e w' => e = .returned (.bool (decide (s = t))) ∧ ∃ n, w' = w.drewN n := by
  have HS := Aside0.mk hs
  have HT := Aside0.mk ht
  clear hs ht
  by_cases hlt : s.length = t.length
  · have h1 : ((s.length : Int) != (t.length : Int)) = false := bne_eq_false_iff_eq.mpr (by rw [hlt])
    have hle : t.length = s.length := hlt.symm
    have HLE := Aside0.mk hlt
    have hl : s.length ≤ 5000 := by omega
    clear hlt hle
    go_enter Tryd.func49, Tryd.ntmps49
    go_wp2
    go_loopg [5] (s.length + 1) (fun gk v5 wr => ∃ (i n : Nat), v5 = .int .i64 i ∧ i ≤ s.length ∧ s.length - i < gk ∧ wr = w.drewN n ∧ Aside0 (s.take i = t.take i))
    case atStart => exact ⟨0, 0, rfl, by omega, by omega, rfl, ⟨by simp⟩⟩
    case round =>
      obtain ⟨i, n, rfl, il, hgk, rfl, HE⟩ := hrel
      by_cases hi : i < s.length
      · have hi' : decide ((i : Int) < (s.length : Int)) = true := decide_eq_true (by omega)
        have hj : i < t.length := by rw [← HLE.out]; exact hi
        have p1 : (i : Int) < (s.length : Int) := by omega
        have p2 : (i : Int) < (t.length : Int) := by omega
        obtain ⟨a, ea, xa⟩ := Kd.at_int HS.out (i : Int) (by omega) (by omega)
        obtain ⟨b, eb, xb⟩ := Kd.at_int HT.out (i : Int) (by omega) (by omega)
        subst ea eb
        rw [Int.toNat_natCast] at xa xb
        have HTK : Aside0 (s.take (i + 1) = s.take i ++ [rd s (i : Int)] ∧ t.take (i + 1) = t.take i ++ [rd t (i : Int)]) := ⟨by
          have g := fun (u : List Int) (h : i < u.length) => show u.take (i + 1) = u.take i ++ [rd u (i : Int)] from by
            rw [List.take_succ_eq_append_getElem h]
            congr 2
            unfold rd
            rw [Int.toNat_natCast, List.getD_eq_getElem?_getD, List.getElem?_eq_getElem h]; rfl
          exact ⟨g s hi, g t hj⟩⟩
        obtain ⟨x, hx⟩ : ∃ x, x = rd s (i : Int) := ⟨_, rfl⟩
        obtain ⟨y, hy⟩ : ∃ y, y = rd t (i : Int) := ⟨_, rfl⟩
        rw [← hx] at xa HTK
        rw [← hy] at xb HTK
        clear hx hy
        by_cases hxy : x = y
        · have hxy' : (x != y) = false := bne_eq_false_iff_eq.mpr hxy
          have HN : Aside0 (s.take (i + 1) = t.take (i + 1)) := ⟨by rw [HTK.out.1, HTK.out.2, HE.out, hxy]⟩
          clear hxy
          go_upto_region 6 with (fail)
          go_quiet (fail)
          go_wp2
          go_roundg (gk - 1)
          case measure => omega
          case rel => exact ⟨i + 1, n + nq, by go_num, by omega, by omega, rfl, HN⟩
        · have hxy' : (x != y) = true := bne_iff_ne.mpr hxy
          have HN : Aside0 (decide (s = t) = false) := ⟨decide_eq_false (fun h => by
            have h1 := HTK.out.1
            have h2 := HTK.out.2
            rw [h, h2] at h1
            have := (List.append_inj' h1 rfl).2
            simp at this
            exact hxy this.symm)⟩
          clear hxy
          go_upto_region 6 with (fail)
          go_quiet (fail)
          go_wp2
          go_ret
          exact ⟨by rw [HN.out]; rfl, n + nq, by rw [World.drewN_drewN]⟩
      · have hi' : decide ((i : Int) < (s.length : Int)) = false := decide_eq_false (by omega)
        have HN : Aside0 (decide (s = t) = true) := ⟨decide_eq_true (by
          have := HE.out
          rw [List.take_of_length_le (by omega), List.take_of_length_le (by have := HLE.out; omega)] at this
          exact this)⟩
        go_wp2
        go_ret
        exact ⟨by rw [HN.out]; rfl, _, rfl⟩
  · have h1 : ((s.length : Int) != (t.length : Int)) = true := bne_iff_ne.mpr (by omega)
    have HN : Aside0 (decide (s = t) = false) := ⟨decide_eq_false (fun h => hlt (by rw [h]))⟩
    clear hlt
    go_enter Tryd.func49, Tryd.ntmps49
    go_wp2
    go_ret
    exact ⟨by rw [HN.out]; rfl, 0, rfl⟩
/-- The search's own struct. -/
def SX (n start : Int) (l : List S33) (A : Option Addr) (c bx bm N : Nat) (w : World) : Prop := w.heap[bx]? = some (.cells #[.int .i64 n, .int .i64 start, .slice A l.length c, .slice (some ⟨bm, 0, none⟩) N N] 83 (0, 0))
theorem SX.cells {n start : Int} {l : List S33} {A : Option Addr} {c bx bm N : Nat} {w : World} (h : SX n start l A c bx bm N w) : w.cell? ⟨bx, 0, none⟩ = some (.int .i64 n) ∧ w.cell? ⟨bx, 1, none⟩ = some (.int .i64 start) ∧ w.cell? ⟨bx, 2, none⟩ = some (.slice A l.length c) ∧ w.cell? ⟨bx, 3, none⟩ = some (.slice (some ⟨bm, 0, none⟩) N N) :=
  ⟨(blk_cell h 0).trans rfl, (blk_cell h 1).trans rfl, (blk_cell h 2).trans rfl, (blk_cell h 3).trans rfl⟩
/-- Can the event be the next one? -/
def mayTo (l : List S33) (k i : Nat) : Nat → Bool
  | 0 => true
  | j + 1 => mayTo l k i j && !(aheadB (rd_T33 l (j : Int)) (rd_T33 l (i : Int)) && !k.testBit j)
def mayB (l : List S33) (k i : Nat) : Bool := !k.testBit i && mayTo l k i l.length
theorem mayTo_iff (l : List S33) (k i : Nat) : ∀ N, mayTo l k i N = true ↔ ∀ j < N, k.testBit j = false → aheadB (rd_T33 l (j : Int)) (rd_T33 l (i : Int)) = false
  | 0 => ⟨fun _ j hj => by omega, fun _ => rfl⟩
  | N + 1 => by
    rw [mayTo, Bool.and_eq_true, mayTo_iff l k i N]
    constructor
    · rintro ⟨h1, h2⟩ j hj hb
      rcases Nat.lt_or_ge j N with h | h
      · exact h1 j h hb
      · obtain rfl : j = N := by omega
        rw [hb] at h2; simpa using h2
    · intro h
      refine ⟨fun j hj hb => h j (by omega) hb, ?_⟩
      cases hb : k.testBit N with
      | true => simp
      | false => rw [h N (by omega) hb]; rfl
theorem mayB_iff (l : List S33) (k i : Nat) : mayB l k i = true ↔ k.testBit i = false ∧ ∀ y ∈ miss l k, aheadB y (rd_T33 l (i : Int)) = false := by
  rw [mayB, Bool.and_eq_true, mayTo_iff]
  constructor
  · rintro ⟨h1, h2⟩
    refine ⟨by simpa using h1, fun y hy => ?_⟩
    obtain ⟨j, hj, hb, rfl⟩ := mem_miss.1 hy
    exact h2 j hj hb
  · rintro ⟨h1, h2⟩
    exact ⟨by rw [h1]; rfl, fun j hj hb => h2 _ (mem_miss.2 ⟨j, hj, hb, rfl⟩)⟩
theorem mayTo_stop {l : List S33} {k i j : Nat} : ∀ {N : Nat}, j < N → aheadB (rd_T33 l (j : Int)) (rd_T33 l (i : Int)) = true → k.testBit j = false → mayTo l k i N = false := by
  intro N hj ha hb
  cases h : mayTo l k i N with
  | false => rfl
  | true => rw [(mayTo_iff l k i N).1 h j hj hb] at ha; cases ha
set_option maxHeartbeats 8000000 in
set_option maxRecDepth 100000 in
theorem may_ref {n start : Int} {l : List S33} {A : Option Addr} {c bx bm N : Nat} (k i : Nat) (w : World) (hX : SX n start l A c bx bm N w) (hC : Kd.C k33 w A l.length l) (hl : l.length ≤ 12) (hk : k < 4096) (hi : i < l.length) :
    Calls Tryd.prog 50 #[.pointer (some ⟨bx, 0, none⟩), .int .i64 k, .int .i64 i] w fun e w' => e = .returned (.bool (mayB l k i)) ∧ Below w.heap.size w w' := by
  have HX := Aside0.mk hX
  have HC := Aside0.mk hC
  have HB := Aside0.mk (Below.refl w.heap.size w)
  have i12 : i ≤ 12 := by omega
  have hi1 : (i : Int) < (l.length : Int) := by omega
  have hand := and1 k i hk
  obtain ⟨c0, c1, c2, c3⟩ := hX.cells
  clear hX hC
  cases hbit : k.testBit i with
  | true =>
    have HE : Aside0 (mayB l k i = false) := ⟨by unfold mayB; rw [hbit]; rfl⟩
    rw [hbit, if_pos rfl] at hand
    have hne : (bits BinOp.and IntKind.i64 (↑k / 2 ^ i) 1 == 1) = true := by rw [hand]; rfl
    clear hbit
    go_enter Tryd.func50, Tryd.ntmps50
    go_wp2
    go_ret
    exact ⟨by rw [HE.out]; rfl, HB.out⟩
  | false =>
    have HE : Aside0 (mayB l k i = mayTo l k i l.length) := ⟨by unfold mayB; rw [hbit]; rfl⟩
    rw [hbit, if_neg (by decide)] at hand
    have hne : (bits BinOp.and IntKind.i64 (↑k / 2 ^ i) 1 == 1) = false := by rw [hand]; rfl
    clear hbit
    go_enter Tryd.func50, Tryd.ntmps50
    go_wp2
    clear hand hne
    go_loopg [7] (l.length + 1) (fun gk v7 wr => ∃ j : Nat, v7 = .int .i64 j ∧ j ≤ l.length ∧ l.length - j < gk ∧ Aside0 (mayTo l k i j = true) ∧ Aside0 (Below w.heap.size w wr))
    case atStart => exact ⟨0, rfl, by omega, by omega, ⟨rfl⟩, HB⟩
    case round =>
      clear HB
      obtain ⟨j, rfl, jl, hgk, HM, HB⟩ := hrel
      have HXr : Aside0 (SX n start l A c bx bm N wr) := ⟨blk_below HX.out HB.out⟩
      clear c0 c1 c2 c3
      obtain ⟨c0, c1, c2, c3⟩ := HXr.out.cells
      by_cases hj : j < l.length
      · have hj' : decide ((j : Int) < (l.length : Int)) = true := decide_eq_true (by omega)
        have j12 : j ≤ 12 := by omega
        have hj1 : (j : Int) < (l.length : Int) := by omega
        have p0 : (0 : Int) ≤ (j : Int) := Int.natCast_nonneg _
        have p1 : (0 : Int) ≤ (i : Int) := Int.natCast_nonneg _
        obtain ⟨ad, ea, x0, x1, x2, x3, x4, x5, x6, x7⟩ := at_T33 (Kd.C_below HC.out HB.out) (j : Int) (by omega) (by omega)
        obtain ⟨ad', ea', z0, z1, z2, z3, z4, z5, z6, z7⟩ := at_T33 (Kd.C_below HC.out HB.out) (i : Int) (by omega) (by omega)
        subst ea
        obtain rfl : ad = ad' := by injection ea'
        rw [Int.toNat_natCast] at x0 x1 x2 x3 x4 x5 x6 x7 z0 z1 z2 z3 z4 z5 z6 z7
        obtain ⟨x, hx⟩ : ∃ x, x = rd_T33 l (j : Int) := ⟨_, rfl⟩
        obtain ⟨z, hz⟩ : ∃ z, z = rd_T33 l (i : Int) := ⟨_, rfl⟩
        rw [← hx] at x0 x1 x2 x3 x4 x5 x6 x7
        rw [← hz] at z0 z1 z2 z3 z4 z5 z6 z7
        have HA : Aside0 (∀ W, Calls Tryd.prog 48 #[agg33 x, agg33 z] W fun e w' => e = .returned (.bool (aheadB x z)) ∧ Below W.heap.size W w') := ⟨fun W => ahead_ref x z W⟩
        unfold agg33 at HA
        have HNX : Aside0 (mayTo l k i (j + 1) = (mayTo l k i j && !(aheadB x z && !k.testBit j))) := ⟨by rw [mayTo, ← hx, ← hz]⟩
        have HST : Aside0 (aheadB x z = true → k.testBit j = false → mayTo l k i l.length = false) := ⟨fun h1 h2 => mayTo_stop hj (by rw [← hx, ← hz]; exact h1) h2⟩
        clear hx hz ea'
        have handj := and1 k j hk
        have HBd := Aside0.mk (below_drew1 HB.out)
        go_upto_region 6 with (fail)
        go_still_tail 14, (by kernel_rfl)
        change wpList _ _ _ _ _ wr.drew
        go_upto_region 7 with (go_at_call 48; (with_reducible refine (HA.out _).mono ?_); rintro e3 w3 ⟨rfl, hb⟩; have HB3 := Aside0.mk (below_then HBd.out HBd.out.size hb); clear hb)
        cases ha : aheadB x z with
        | false =>
          have HN : Aside0 (mayTo l k i (j + 1) = true) := ⟨by rw [HNX.out, HM.out, ha]; rfl⟩
          clear ha
          go_wp2
          go_roundg (gk - 1)
          case measure => omega
          case rel => exact ⟨j + 1, by go_num, by omega, by omega, HN, HB3⟩
        | true =>
          cases hbj : k.testBit j with
          | true =>
            have HN : Aside0 (mayTo l k i (j + 1) = true) := ⟨by rw [HNX.out, HM.out, ha, hbj]; rfl⟩
            rw [hbj, if_pos rfl] at handj
            have hnj : (bits BinOp.and IntKind.i64 (↑k / 2 ^ j) 1 == 0) = false := by rw [handj]; rfl
            clear ha hbj
            go_wp2
            go_roundg (gk - 1)
            case measure => omega
            case rel => exact ⟨j + 1, by go_num, by omega, by omega, HN, HB3⟩
          | false =>
            have HN : Aside0 (mayTo l k i l.length = false) := ⟨HST.out ha hbj⟩
            rw [hbj, if_neg (by decide)] at handj
            have hnj : (bits BinOp.and IntKind.i64 (↑k / 2 ^ j) 1 == 0) = true := by rw [handj]; rfl
            clear ha hbj
            go_wp2
            go_ret
            exact ⟨by rw [HE.out, HN.out]; rfl, HB3.out⟩
      · have hj' : decide ((j : Int) < (l.length : Int)) = false := decide_eq_false (by omega)
        obtain rfl : j = l.length := by omega
        go_wp2
        go_ret
        exact ⟨by rw [HE.out, HM.out]; rfl, HB.out⟩
end Go.Proofs.YtakhipedjccpkaaDoor.PH
namespace Go.Proofs.YtakhipedjccpkaaDoor.PH
open Go.RowKit Go.Proofs.YtakhipedjccpkaaDoorW.PrintWords Go.Proofs.YtakhipedjccpkaaDoorW.PrintLast Go.Proofs.YtakhipedjccpkaaDoorW.PrintMore
attribute [local go_sem] max2_int min2_int max_two min_two max_three min_three max_four min_four
set_option linter.unusedVariables false
set_option linter.unusedSimpArgs false

def HistPost (l : List S33) (w : World) (e : Ending) (w' : World) : Prop := ∃ b : Bool, e = .returned (.bool b) ∧ (b = true ↔ rightP l) ∧ Below w.heap.size w w'
theorem hist_no {l : List S33} {i : Nat} (hi : i < l.length) (h : ¬ rightAt l i) : false = true ↔ rightP l := ⟨(fun h => by cases h), fun hr => absurd (hr i hi) h⟩
set_option maxHeartbeats 8000000 in
set_option maxRecDepth 100000 in
theorem hist_ref (A : Option Addr) (c : Nat) (l : List S33) (w : World) (hC : Kd.C k33 w A l.length l) (hl : l.length ≤ 12) :
    Calls Tryd.prog 32 #[.slice A l.length c] w (HistPost l w) := by
  have HC := Aside0.mk hC
  have HB := Aside0.mk (Below.refl w.heap.size w)
  clear hC
  go_enter Tryd.func32, Tryd.ntmps32
  go_wp2
  go_loopg [3] (l.length + 1) (fun gk v3 wr => ∃ i : Nat, v3 = .int .i64 i ∧ i ≤ l.length ∧ l.length - i < gk ∧ Aside0 (∀ j < i, rightAt l j) ∧ Aside0 (Below w.heap.size w wr))
  case atStart => exact ⟨0, rfl, by omega, by omega, ⟨fun j hj => by omega⟩, HB⟩
  case round =>
    clear HB
    obtain ⟨i, rfl, il, hgk, HR, HB⟩ := hrel
    by_cases hi : i < l.length
    · have hi' : decide ((i : Int) < (l.length : Int)) = true := decide_eq_true (by omega)
      have i12 : i ≤ 12 := by omega
      have hi1 : (i : Int) < (l.length : Int) := by omega
      have p0 : (0 : Int) ≤ (i : Int) := Int.natCast_nonneg _
      obtain ⟨ad, ea, x0, x1, x2, x3, x4, x5, x6, x7⟩ := at_T33 (Kd.C_below HC.out HB.out) (i : Int) (by omega) (by omega)
      subst ea
      rw [Int.toNat_natCast] at x0 x1 x2 x3 x4 x5 x6 x7
      obtain ⟨x, hx⟩ : ∃ x, x = rd_T33 l (i : Int) := ⟨_, rfl⟩
      rw [← hx] at x0 x1 x2 x3 x4 x5 x6 x7
      have HX := Aside0.mk hx
      clear hx
      by_cases h4 : x.f4 < 0
      · have h4' : decide (x.f4 < 0) = true := decide_eq_true h4
        have HN := Aside0.mk (hist_no hi (fun h => by have := h.1.1; rw [← HX.out] at this; omega))
        clear h4
        go_upto_region 4 with (fail)
        go_quiet (fail)
        go_wp2
        go_ret
        exact ⟨false, rfl, HN.out, pw_below_drewN HB.out _⟩
      · have h4' : decide (x.f4 < 0) = false := decide_eq_false h4
        by_cases h5 : x.f5 = -1 ∨ x.f4 < x.f5
        · have HTI : Aside0 (timesAt l i) := ⟨by unfold timesAt; rw [← HX.out]; exact ⟨by omega, h5⟩⟩
          go_upto_region 4 with (fail)
          go_cut [39] (fun v39 wc => v39 = .bool false ∧ Aside0 (Below w.heap.size w wc))
          case first =>
            by_cases h6 : x.f5 = -1
            · have h6' : (x.f5 != -1) = false := bne_eq_false_iff_eq.mpr h6
              clear h6 h5 h4
              go_quiet (fail)
              go_wp2
              go_meet
              case rel => exact ⟨rfl, ⟨pw_below_drewN HB.out _⟩⟩
            · have h6' : (x.f5 != -1) = true := bne_iff_ne.mpr h6
              have h7' : decide (x.f5 ≤ x.f4) = false := decide_eq_false (by omega)
              clear h6 h5 h4
              go_quiet (fail)
              go_wp2
              go_meet
              case rel => exact ⟨rfl, ⟨pw_below_drewN HB.out _⟩⟩
          case rest =>
            clear HB
            obtain ⟨rfl, HB⟩ := hcut
            clear x0 x1 x2 x3 x4 x5 x6 x7 h5 h4 h4'
            go_wp2
            obtain ⟨go, rfl⟩ : ∃ go : Nat, go = gk := ⟨_, rfl⟩
            go_loopg [4] (l.length + 1) (fun gj v4 wr => ∃ j : Nat, v4 = .int .i64 j ∧ j ≤ i ∧ i - j < gj ∧ Aside0 (∀ q < j, fitsAt l i q) ∧ Aside0 (Below w.heap.size w wr))
            case atStart => exact ⟨0, rfl, by omega, by omega, ⟨fun q hq => by omega⟩, HB⟩
            case round =>
              clear HB
              obtain ⟨j, rfl, jl, hgj, HF, HB⟩ := hrel
              by_cases hj : j < i
              · have hj' : decide ((j : Int) < (i : Int)) = true := decide_eq_true (by omega)
                have hj'' : decide (j < i) = true := decide_eq_true hj
                have hj1 : (j : Int) < (l.length : Int) := by omega
                have j12 : j ≤ 12 := by omega
                have q0 : (0 : Int) ≤ (j : Int) := Int.natCast_nonneg _
                obtain ⟨_, ea, x0, x1, x2, x3, x4, x5, x6, x7⟩ := at_T33 (Kd.C_below HC.out HB.out) (i : Int) (by omega) (by omega)
                cases ea
                obtain ⟨_, ea, z0, z1, z2, z3, z4, z5, z6, z7⟩ := at_T33 (Kd.C_below HC.out HB.out) (j : Int) (by omega) (by omega)
                cases ea
                rw [Int.toNat_natCast] at x0 x1 x2 x3 x4 x5 x6 x7 z0 z1 z2 z3 z4 z5 z6 z7
                rw [← HX.out] at x0 x1 x2 x3 x4 x5 x6 x7
                obtain ⟨z, hz⟩ : ∃ z, z = rd_T33 l (j : Int) := ⟨_, rfl⟩
                rw [← hz] at z0 z1 z2 z3 z4 z5 z6 z7
                have HZ := Aside0.mk hz
                clear hz
                have HA : Aside0 (∀ W, Calls Tryd.prog 48 #[agg33 x, agg33 z] W fun e w' => e = .returned (.bool (aheadB x z)) ∧ Below W.heap.size W w') := ⟨fun W => ahead_ref x z W⟩
                have HA2 : Aside0 (∀ W, Calls Tryd.prog 48 #[agg33 z, agg33 x] W fun e w' => e = .returned (.bool (aheadB z x)) ∧ Below W.heap.size W w') := ⟨fun W => ahead_ref z x W⟩
                unfold agg33 at HA HA2
                have HBd := Aside0.mk (below_drew1 HB.out)
                go_upto_region 9 with (fail)
                go_still_tail 8, (by kernel_rfl)
                change wpList _ _ _ _ _ wr.drew
                go_upto_region 10 with (go_at_call 48; (with_reducible refine (HA.out _).mono ?_); rintro e3 w3 ⟨rfl, hb⟩; have HW3 := Aside0.mk (below_then (below_drew1 (Below.refl wr.heap.size wr)) (Nat.le_refl _) hb); have HB3 := Aside0.mk (below_then HBd.out HBd.out.size hb); clear hb)
                have x0 := pw_cell_below HW3.out x0
                have x1 := pw_cell_below HW3.out x1
                have x2 := pw_cell_below HW3.out x2
                have x3 := pw_cell_below HW3.out x3
                have x4 := pw_cell_below HW3.out x4
                have x5 := pw_cell_below HW3.out x5
                have x6 := pw_cell_below HW3.out x6
                have x7 := pw_cell_below HW3.out x7
                have z0 := pw_cell_below HW3.out z0
                have z1 := pw_cell_below HW3.out z1
                have z2 := pw_cell_below HW3.out z2
                have z3 := pw_cell_below HW3.out z3
                have z4 := pw_cell_below HW3.out z4
                have z5 := pw_cell_below HW3.out z5
                have z6 := pw_cell_below HW3.out z6
                have z7 := pw_cell_below HW3.out z7
                have HBe := Aside0.mk (below_drew1 HB3.out)
                go_still_tail 8, (by kernel_rfl)
                change wpList _ _ _ _ _ w3.drew
                go_upto_region 11 with (go_at_call 48; (with_reducible refine (HA2.out _).mono ?_); rintro e4 w4 ⟨rfl, hb⟩; have HW4 := Aside0.mk (below_then (below_drew1 (Below.refl w3.heap.size w3)) (Nat.le_refl _) hb); have HB4 := Aside0.mk (below_then HBe.out HBe.out.size hb); clear hb)
                have x0 := pw_cell_below HW4.out x0
                have z0 := pw_cell_below HW4.out z0
                by_cases hff : x.f0 = z.f0 ∧ aheadB x z = false ∧ aheadB z x = false
                · obtain ⟨f1, f2, f3⟩ := hff
                  have f1' : (x.f0 == z.f0) = true := beq_iff_eq.mpr f1
                  have HN := Aside0.mk (hist_no hi (fun h => by
                    have := h.2 j hj
                    unfold fitsAt at this
                    rw [← HX.out, ← HZ.out] at this
                    rcases this f1 with h | h
                    · rw [f2] at h; cases h
                    · rw [f3] at h; cases h))
                  rw [f2, f3]
                  clear f1 f2 f3
                  go_quiet (fail)
                  go_wp2
                  go_ret
                  exact ⟨false, rfl, HN.out, pw_below_drewN HB4.out _⟩
                · have HFN : Aside0 (∀ q < j + 1, fitsAt l i q) := ⟨fun q hq => by
                    rcases Nat.lt_or_ge q j with h | h
                    · exact HF.out q h
                    · obtain rfl : q = j := by omega
                      unfold fitsAt
                      rw [← HX.out, ← HZ.out]
                      intro h0
                      cases h1 : aheadB x z with
                      | true => exact .inl rfl
                      | false =>
                        cases h2 : aheadB z x with
                        | true => exact .inr rfl
                        | false => exact absurd ⟨h0, h1, h2⟩ hff⟩
                  by_cases f1 : x.f0 = z.f0
                  · have f1' : (x.f0 == z.f0) = true := beq_iff_eq.mpr f1
                    cases h1 : aheadB x z with
                    | true =>
                      clear hff f1 h1
                      go_quiet (fail)
                      go_wp2
                      go_roundg (gk - 1)
                      case measure => omega
                      case rel => exact ⟨j + 1, by go_num, by omega, by omega, HFN, ⟨pw_below_drewN HB4.out _⟩⟩
                    | false =>
                      cases h2 : aheadB z x with
                      | true =>
                        clear hff f1 h1 h2
                        go_quiet (fail)
                        go_wp2
                        go_roundg (gk - 1)
                        case measure => omega
                        case rel => exact ⟨j + 1, by go_num, by omega, by omega, HFN, ⟨pw_below_drewN HB4.out _⟩⟩
                      | false => exact absurd ⟨f1, h1, h2⟩ hff
                  · have f1' : (x.f0 == z.f0) = false := beq_eq_false_iff_ne.mpr f1
                    clear hff f1
                    go_quiet (fail)
                    go_wp2
                    go_roundg (gk - 1)
                    case measure => omega
                    case rel => exact ⟨j + 1, by go_num, by omega, by omega, HFN, ⟨pw_below_drewN HB4.out _⟩⟩
              · have hj' : decide ((j : Int) < (i : Int)) = false := decide_eq_false (by omega)
                have hj'' : decide (j < i) = false := decide_eq_false hj
                obtain rfl : j = i := by omega
                have HRN : Aside0 (∀ q < j + 1, rightAt l q) := ⟨fun q hq => by
                  rcases Nat.lt_or_ge q j with h | h
                  · exact HR.out q h
                  · obtain rfl : q = j := by omega
                    exact ⟨HTI.out, HF.out⟩⟩
                go_wp2
                go_roundg (go - 1)
                case measure => omega
                case rel => exact ⟨j + 1, by go_num, by omega, by omega, HRN, HB⟩
        · have h6' : (x.f5 != -1) = true := bne_iff_ne.mpr (by omega)
          have h7' : decide (x.f5 ≤ x.f4) = true := decide_eq_true (by omega)
          have HN := Aside0.mk (hist_no hi (fun h => by have := h.1.2; rw [← HX.out] at this; exact h5 this))
          clear h5 h4
          go_upto_region 4 with (fail)
          go_quiet (fail)
          go_wp2
          go_ret
          exact ⟨false, rfl, HN.out, pw_below_drewN HB.out _⟩
    · have hi' : decide ((i : Int) < (l.length : Int)) = false := decide_eq_false (by omega)
      obtain rfl : i = l.length := by omega
      go_wp2
      go_ret
      exact ⟨true, rfl, ⟨fun _ => HR.out, fun _ => rfl⟩, HB.out⟩
end Go.Proofs.YtakhipedjccpkaaDoor.PH
namespace Go.Proofs.YtakhipedjccpkaaDoor.PH.Says
open Go.RowKit Go.Proofs.YtakhipedjccpkaaDoorW.PrintWords Go.Proofs.YtakhipedjccpkaaDoorW.PrintLast Go.Proofs.YtakhipedjccpkaaDoorW.PrintMore
set_option linter.unusedVariables false
set_option linter.unusedSimpArgs false

theorem first_some {n start : Int} (h : Begun n start) : butlerref03_First.f n start = some (state0 n start) := by
  unfold butlerref03_First.f state0
  split
  · rfl
  · split
    · rename_i h2 h5
      have hs : 1 ≤ start ∧ start ≤ 1000 := by rcases h with h | h | h | h | h <;> omega
      have hw : wrap64 (3 * start) = 3 * start := wrap_i64 (by unfold I64; omega)
      rw [hw, if_pos (by omega), if_pos (by omega)]
      congr 2; omega
    · rfl
theorem flags0 {n start : Int} (h : Begun n start) : Flags n start (state0 n start) := by
  rintro rfl
  have hs : 1 ≤ start ∧ start ≤ 1000 := by rcases h with h | h | h | h | h <;> omega
  have e : state0 5 start = List.replicate (3 * start.toNat) 0 := by unfold state0; simp
  rw [e]
  refine ⟨by simp, fun k => .inl ?_⟩
  unfold rd
  rw [List.getD_eq_getElem?_getD]
  rcases Nat.lt_or_ge ((3 * k : Nat) : Int).toNat (3 * start.toNat) with h | h
  · rw [List.getElem?_eq_getElem (by simpa using h)]; simp
  · rw [List.getElem?_eq_none (by simpa using h)]; rfl
theorem flags_next {n start : Int} {s : List Int} {m : Nat} {e : S33} (h : Flags n start s) (hs : Sok n m s) {x : S79} (hx : x ∈ waysOf n s e) : Flags n start x.f1 := by
  rintro rfl
  obtain ⟨f1, f2⟩ := h rfl
  obtain ⟨q, hq, q1, q2⟩ := hs.five rfl
  unfold waysOf at hx
  simp only [show ¬ ((5 : Int) = 1) by decide, show ¬ ((5 : Int) = 2) by decide, show ¬ ((5 : Int) = 3) by decide, show ¬ ((5 : Int) = 4) by decide, if_true, if_false] at hx
  unfold wOnces at hx
  split at hx
  · cases hx
  · rename_i c v hcv
    simp at hx; subst hx
    obtain ⟨ka, kb⟩ := once_at hq q1 e
    simp only [W]
    unfold onceNext
    split
    · refine ⟨by simpa using f1, fun k => ?_⟩
      unfold rd
      rw [Int.toNat_natCast, List.getD_eq_getElem?_getD, List.getElem?_set_ne (by omega), List.getElem?_set_ne (by omega)]
      by_cases hk : onceAt s e = 3 * k
      · rw [hk, List.getElem?_set_self (by omega)]; right; rfl
      · rw [List.getElem?_set_ne hk]
        have := f2 k
        unfold rd at this
        rw [Int.toNat_natCast, List.getD_eq_getElem?_getD] at this
        exact this
    · exact ⟨f1, f2⟩
/-- A way in memory. -/
theorem ways_at {w : World} {ok : Nat → Prop} {v : Value} {ws : List S79} (h : WaysAt w ok v ws) : ∃ g A c, v = .slice A ws.length c ∧ ws.length ≤ 2 ∧ (ws ≠ [] → A = some ⟨g, 0, none⟩ ∧ g < w.heap.size) ∧ ∀ (k : Nat) (hk : k < ws.length), ∃ B d, w.cell? ⟨g, k * 3, none⟩ = some (.int .i64 ws[k].f0.f0) ∧ w.cell? ⟨g, k * 3 + 1, none⟩ = some (.int .i64 ws[k].f0.f1) ∧
    w.cell? ⟨g, k * 3 + 2, none⟩ = some (.slice B ws[k].f1.length d) ∧ Kd.V (Kd.int .i64) 3 w 0 ok (.slice B ws[k].f1.length d) ws[k].f1 := by
  match ws, h with
  | [], h => exact ⟨0, none, 0, h, by simp, by simp, fun k hk => by simp at hk⟩
  | [x], ⟨g, A, c, h1, h2, h3, h4⟩ =>
    refine ⟨g, _, _, h1, by simp, fun _ => ⟨rfl, blk_lt h3⟩, fun k hk => ?_⟩
    obtain rfl : k = 0 := by simp at hk; exact hk
    exact ⟨A, c, (blk_cell h3 0).trans rfl, (blk_cell h3 1).trans rfl, (blk_cell h3 2).trans rfl, h4⟩
  | [x, y], ⟨g, A, c, B, d, h1, h2, h3, h4, h5⟩ =>
    refine ⟨g, _, _, h1, by simp, fun _ => ⟨rfl, blk_lt h3⟩, fun k hk => ?_⟩
    have : k = 0 ∨ k = 1 := by simp at hk; omega
    rcases this with rfl | rfl
    · exact ⟨A, c, (blk_cell h3 0).trans rfl, (blk_cell h3 1).trans rfl, (blk_cell h3 2).trans rfl, h4⟩
    · exact ⟨B, d, (blk_cell h3 3).trans rfl, (blk_cell h3 4).trans rfl, (blk_cell h3 5).trans rfl, h5⟩
end Go.Proofs.YtakhipedjccpkaaDoor.PH.Says
namespace Go.Proofs.YtakhipedjccpkaaDoor.PH
open Go.RowKit Go.Proofs.YtakhipedjccpkaaDoorW.PrintWords Go.Proofs.YtakhipedjccpkaaDoorW.PrintLast Go.Proofs.YtakhipedjccpkaaDoorW.PrintMore
set_option linter.unusedVariables false
set_option linter.unusedSimpArgs false

/-! ### plainly -/
abbrev Met := Nat → List (List Int)
def Met.add (M : Met) (k : Nat) (s : List Int) : Met := fun j => if j = k then M j ++ [s] else M j
def GrM (n : Int) (l : List S33) (M M' : Met) : Prop := ∀ k s, s ∈ M' k → s ∈ M k ∨ ¬ Gs n l k s
theorem GrM.refl (n : Int) (l : List S33) (M : Met) : GrM n l M M := fun _ _ h => .inl h
def MV (n : Int) (l : List S33) (M : Met) (m : Nat) : Prop := ∀ k s, (miss l k).length ≤ m → s ∈ M k → ¬ Gs n l k s
def GrM1 (n : Int) (l : List S33) (k : Nat) (s : List Int) (M M' : Met) : Prop := ∀ k' s', s' ∈ M' k' → (k' = k ∧ s' = s) ∨ s' ∈ M k' ∨ ¬ Gs n l k' s'
theorem GrM1.add (n : Int) (l : List S33) (k : Nat) (s : List Int) (M : Met) : GrM1 n l k s M (M.add k s) := by
  intro k' s' h
  unfold Met.add at h
  split at h
  · rename_i e
    rcases List.mem_append.1 h with h | h
    · exact .inr (.inl h)
    · exact .inl ⟨e, by simpa using h⟩
  · exact .inr (.inl h)
theorem GrM1.kept {n : Int} {l : List S33} {k : Nat} {s : List Int} {M M' : Met} {m : Nat} (h : GrM1 n l k s M M') (hK : MV n l M (m + 1)) (hm : (miss l k).length = m + 1) : MV n l M' m := by
  intro k' s' h1 h2
  rcases h k' s' h2 with ⟨rfl, rfl⟩ | h3 | h3
  · omega
  · exact hK k' s' (by omega) h3
  · exact h3
theorem GrM1.then {n : Int} {l : List S33} {k : Nat} {s : List Int} {M M' M2 : Met} (h : GrM1 n l k s M M') (h2 : GrM n l M' M2) : GrM1 n l k s M M2 := by
  intro k' s' h3
  rcases h2 k' s' h3 with h4 | h4
  · exact h k' s' h4
  · exact .inr (.inr h4)
theorem GrM1.end_ {n : Int} {l : List S33} {k : Nat} {s : List Int} {M M' : Met} (h : GrM1 n l k s M M') (hn : ¬ Gs n l k s) : GrM n l M M' := by
  intro k' s' h3
  rcases h k' s' h3 with ⟨rfl, rfl⟩ | h4 | h4
  · exact .inr hn
  · exact .inl h4
  · exact .inr h4
theorem tries_12' : ∀ m, m ≤ 12 → tries m ≤ 5000000000000 := by
  have : ∀ d m, m + d = 12 → tries m ≤ tries 12 := by
    intro d
    induction d with
    | zero => intro m h; have : m = 12 := by omega
              subst this; exact Nat.le_refl _
    | succ d ih => intro m h; exact Nat.le_trans (tries_mono m) (ih (m + 1) (by omega))
  intro m h
  exact Nat.le_trans (this (12 - m) m (by omega)) (by decide)
theorem put_lt {k i L : Nat} (hk : k < 2 ^ L) (hi : i < L) : k ||| 1 <<< i < 2 ^ L := by
  refine Nat.or_lt_two_pow hk ?_
  rw [Nat.one_shiftLeft]; exact Nat.pow_lt_pow_right (by decide) hi

/-! ### in the world -/
abbrev kS : Kd (List Int) := Kd.slice 3 (Kd.int .i64)
/-- None of the memory's blocks. -/
def Avoid (bm : Nat) (arr : Array Value) (b : Nat) : Prop := b ≠ bm ∧ ∀ (j : Nat) (v : Value), arr[j]? = some v → v.ownBlock ≠ some b
/-- None but row k's. -/
def Rk (bm : Nat) (arr : Array Value) (k b : Nat) : Prop := b ≠ bm ∧ ∀ (j : Nat) (v : Value), j ≠ k → arr[j]? = some v → v.ownBlock ≠ some b
structure MetAt (w : World) (base bm N : Nat) (arr : Array Value) (M : Met) : Prop where
  blk : w.heap[bm]? = some (.cells arr 85 (0, 0))
  size : arr.size = N
  low : base ≤ bm
  row : ∀ k, k < N → ∃ v, arr[k]? = some v ∧ Kd.N kS 47 w base (Rk bm arr k) v (M k)
/-- Whatever is none of the memory's blocks stands. -/
structure Only (bm : Nat) (arr arr' : Array Value) (w w' : World) : Prop where
  size : w.heap.size ≤ w'.heap.size
  keep : ∀ b, b < w.heap.size → Avoid bm arr b → w'.heap[b]? = w.heap[b]? ∧ Avoid bm arr' b
theorem Only.refl (bm : Nat) (arr : Array Value) (w : World) : Only bm arr arr w w := ⟨Nat.le_refl _, fun _ _ h => ⟨rfl, h⟩⟩
theorem Only.trans {bm : Nat} {a b c : Array Value} {w w1 w2 : World} (h : Only bm a b w w1) (k : Only bm b c w1 w2) : Only bm a c w w2 :=
  ⟨Nat.le_trans h.size k.size, fun x hx ha => by
    obtain ⟨h1, h2⟩ := h.keep x hx ha
    obtain ⟨k1, k2⟩ := k.keep x (Nat.lt_of_lt_of_le hx h.size) h2
    exact ⟨k1.trans h1, k2⟩⟩
theorem Only.of_below {bm : Nat} {a : Array Value} {w w1 : World} (h : Below w.heap.size w w1) : Only bm a a w w1 := ⟨h.size, fun x hx ha => ⟨h.block x hx, ha⟩⟩
theorem V_only {bm : Nat} {arr arr' : Array Value} {w w' : World} {v : Value} {s : List Int} (h : Kd.V (Kd.int .i64) 3 w 0 (Avoid bm arr) v s) (ho : Only bm arr arr' w w') : Kd.V (Kd.int .i64) 3 w' 0 (Avoid bm arr') v s := by
  obtain ⟨A, c, hv, hl, hf⟩ := h
  exact ⟨A, c, hv, hl, Kd.F_mono (Kd.F_step (Kd.F_bound hf) (fun k hk hlt => (ho.keep k hlt hk.1).1)) (fun k hk => (ho.keep k hk.2 hk.1).2)⟩
theorem WaysAt.only {bm : Nat} {arr arr' : Array Value} {w w' : World} {v : Value} (ho : Only bm arr arr' w w') : ∀ {ws : List S79}, WaysAt w (Avoid bm arr) v ws → WaysAt w' (Avoid bm arr') v ws
  | [], h => h
  | [_], ⟨g, A, c, h1, h2, h3, h4⟩ => by
    obtain ⟨k1, k2⟩ := ho.keep g (blk_lt h3) h2
    exact ⟨g, A, c, h1, k2, k1.trans h3, V_only h4 ho⟩
  | [_, _], ⟨g, A, c, B, d, h1, h2, h3, h4, h5⟩ => by
    obtain ⟨k1, k2⟩ := ho.keep g (blk_lt h3) h2
    exact ⟨g, A, c, B, d, h1, k2, k1.trans h3, V_only h4 ho, V_only h5 ho⟩
  | _ :: _ :: _ :: _, h => h.elim
theorem MetAt.below {w w' : World} {base bm N : Nat} {arr : Array Value} {M : Met} (h : MetAt w base bm N arr M) (hb : Below w.heap.size w w') : MetAt w' base bm N arr M :=
  ⟨blk_below h.blk hb, h.size, h.low, fun k hk => by
    obtain ⟨v, h1, h2⟩ := h.row k hk
    exact ⟨v, h1, Kd.N_below h2 hb⟩⟩
/-- What is made behind it avoids it. -/
theorem MetAt.new {w : World} {base bm N : Nat} {arr : Array Value} {M : Met} (h : MetAt w base bm N arr M) {b : Nat} (hb : w.heap.size ≤ b) : Avoid bm arr b := by
  refine ⟨by have := blk_lt h.blk; omega, fun j v hj he => ?_⟩
  have hjN : j < N := by rw [← h.size]; exact (Array.getElem?_eq_some_iff.1 hj).1
  obtain ⟨v', h1, h2⟩ := h.row j hjN
  rw [hj] at h1
  obtain rfl := Option.some.inj h1
  have := Kd.N_lt h2 b he
  exact absurd hb (by omega)
theorem FK_state {w : World} {ok : Nat → Prop} {A : Option Addr} {c : Nat} {s : List Int} (h : Kd.V (Kd.int .i64) 3 w 0 ok (.slice A s.length c) s) : Kd.FK kS w ok s [.slice A s.length c] := by
  obtain ⟨h1, h2, h3⟩ := Kd.V_at h
  intro W hW
  exact ⟨A, c, rfl, h2, h3 W hW⟩
/-- A state is appended to row k, the row is stored back. -/
theorem MetAt.put {w W w1 : World} {base bm N k : Nat} {arr : Array Value} {M : Met} {v v1 : Value} {s : List Int} (h : MetAt w base bm N arr M) (hk : k < N) (hv : arr[k]? = some v) (hW : Below w.heap.size w W)
    (hg : W.grownBy w1 v.ownBlock) (hat : v1.ownBlock = v.ownBlock ∨ ∃ b, v1.ownBlock = some b ∧ W.heap.size ≤ b) (hN : Kd.N kS 47 w1 base (Rk bm arr k) v1 (M k ++ [s])) :
    MetAt (w1.setCell ⟨bm, k, none⟩ v1) base bm N (arr.setIfInBounds k v1) (M.add k s) ∧ Only bm arr (arr.setIfInBounds k v1) w (w1.setCell ⟨bm, k, none⟩ v1) := by
  have hk' : k < arr.size := by rw [h.size]; exact hk
  obtain ⟨v', e1, hNk⟩ := h.row k hk
  rw [hv] at e1
  obtain rfl := Option.some.inj e1
  have hvb : ∀ b, v.ownBlock = some b → b ≠ bm := fun b hb => (hNk.1 b hb).1
  have hbm : w1.heap[bm]? = some (.cells arr 85 (0, 0)) := by
    have hb1 := blk_below h.blk hW
    exact (hg.block bm (blk_lt hb1) (fun e => hvb bm e.symm rfl)).trans hb1
  have hget : ∀ j u, (arr.setIfInBounds k v1)[j]? = some u → (j = k ∧ u = v1) ∨ (j ≠ k ∧ arr[j]? = some u) := by
    intro j u hj
    rw [Array.getElem?_setIfInBounds] at hj
    split at hj
    · rename_i e
      (try rw [if_pos hk'] at hj)
      exact .inl ⟨e.symm, (Option.some.inj hj).symm⟩
    · rename_i e
      exact .inr ⟨fun h => e h.symm, hj⟩
  have hnew : ∀ b, b < W.heap.size → v.ownBlock ≠ some b → v1.ownBlock ≠ some b := by
    intro b hb hne he
    rcases hat with hat | ⟨b', h1, h2⟩
    · rw [hat] at he; exact hne he
    · rw [h1] at he; injection he with he; omega
  refine ⟨⟨blk_set hbm k v1, by rw [Array.size_setIfInBounds]; exact h.size, h.low, fun j hj => ?_⟩, ⟨?_, fun b hb ha => ?_⟩⟩
  · by_cases e : j = k
    · subst e
      refine ⟨v1, by rw [Array.getElem?_setIfInBounds, if_pos rfl, if_pos hk'], ?_⟩
      have : M.add j s j = M j ++ [s] := by unfold Met.add; rw [if_pos rfl]
      rw [this]
      refine Kd.N_mono (Kd.N_far (p := ⟨bm, j, none⟩) hN (fun b hb => hb.1) v1) (fun b hb => ⟨hb.1, fun i u hi hu => ?_⟩)
      rcases hget i u hu with ⟨e, _⟩ | ⟨_, hu⟩
      · exact absurd e hi
      · exact hb.2 i u hi hu
    · obtain ⟨u, hu, hNj⟩ := h.row j hj
      refine ⟨u, by rw [Array.getElem?_setIfInBounds, if_neg (fun h => e h.symm)]; exact hu, ?_⟩
      have : M.add k s j = M j := by unfold Met.add; rw [if_neg e]
      rw [this]
      have n1 := Kd.N_bound (Kd.N_below hNj hW)
      have n2 := Kd.N_grown n1 hg (fun b hb => fun h => hb.1.2 k v (fun h => e h.symm) hv h.symm)
      refine Kd.N_mono (Kd.N_far (p := ⟨bm, k, none⟩) n2 (fun b hb => hb.1.1) v1) (fun b hb => ⟨hb.1.1, fun i x hi hx => ?_⟩)
      rcases hget i x hx with ⟨rfl, rfl⟩ | ⟨_, hx⟩
      · exact hnew b hb.2 (hb.1.2 _ v hi hv)
      · exact hb.1.2 i x hi hx
  · have := hg.size
    have := hW.size
    have e : (w1.setCell ⟨bm, k, none⟩ v1).heap.size = w1.heap.size := by simp
    rw [e]; omega
  · have hb' : b < W.heap.size := Nat.lt_of_lt_of_le hb hW.size
    refine ⟨?_, ha.1, fun j u hu => ?_⟩
    · rw [Below.heap_setCell w1 ⟨bm, k, none⟩ v1 b (fun e => ha.1 e), hg.block b hb' (fun e => ha.2 k v hv e.symm), hW.block b hb]
    · rcases hget j u hu with ⟨rfl, rfl⟩ | ⟨_, hu⟩
      · exact hnew b hb' (ha.2 _ v hv)
      · exact ha.2 j u hu
theorem Met.add_len {M : Met} {c : Nat} (h : ∀ k, (M k).length ≤ c) (k : Nat) (s : List Int) : ∀ j, (M.add k s j).length ≤ c + 1 := by
  intro j
  unfold Met.add
  have := h j
  split <;> simp <;> omega
end Go.Proofs.YtakhipedjccpkaaDoor.PH
