/- The closure first, slices.IndexFunc and ContainsFunc over it: what their calls come to. Conditions: none. -/
import Derived.Test.YtakhipedjccpkaaDoorHg
import Derived.Test.YtakhipedjccpkaaDoorHk
namespace Go.Proofs.YtakhipedjccpkaaDoor.PH
open Go.RowKit Go.Proofs.YtakhipedjccpkaaDoorW.PrintWords Go.Proofs.YtakhipedjccpkaaDoorW.PrintLast Go.Proofs.YtakhipedjccpkaaDoorW.PrintMore
set_option linter.unusedVariables false
set_option linter.unusedSimpArgs false

/-- One is over before the other begins. -/
def aheadB (x y : S33) : Bool := if x.f5 = -1 then false else decide (x.f5 < y.f4)
def vS33 (e : S33) : Value := .agg #[.int .i64 e.f0, .int .i64 e.f1, .int .i64 e.f2, .int .i64 e.f3, .int .i64 e.f4, .int .i64 e.f5, .int .i64 e.f6.f0, .int .i64 e.f6.f1]
def oS33 (e : S33) : Obj := .cells #[.int .i64 e.f0, .int .i64 e.f1, .int .i64 e.f2, .int .i64 e.f3, .int .i64 e.f4, .int .i64 e.f5, .int .i64 e.f6.f0, .int .i64 e.f6.f1] 33 (0, 0)
theorem cells_event {w : World} {b : Nat} {e : S33} (h : w.heap[b]? = some (oS33 e)) :
    w.cell? ⟨b, 0, none⟩ = some (.int .i64 e.f0) ∧ w.cell? ⟨b, 1, none⟩ = some (.int .i64 e.f1) ∧ w.cell? ⟨b, 2, none⟩ = some (.int .i64 e.f2) ∧ w.cell? ⟨b, 3, none⟩ = some (.int .i64 e.f3) ∧ w.cell? ⟨b, 4, none⟩ = some (.int .i64 e.f4) ∧ w.cell? ⟨b, 5, none⟩ = some (.int .i64 e.f5) ∧ w.cell? ⟨b, 6, none⟩ = some (.int .i64 e.f6.f0) ∧ w.cell? ⟨b, 7, none⟩ = some (.int .i64 e.f6.f1) := by
  unfold oS33 at h
  refine ⟨?_, ?_, ?_, ?_, ?_, ?_, ?_, ?_⟩ <;> exact (blk_cell h _).trans rfl
theorem ahead_some (x y : S33) : history_ahead.f x.f0 x.f1 x.f2 x.f3 x.f4 x.f5 x.f6.f0 x.f6.f1 y.f0 y.f1 y.f2 y.f3 y.f4 y.f5 y.f6.f0 y.f6.f1 = some (aheadB x y) := by
  unfold history_ahead.f aheadB
  split <;> rfl
theorem rd33_eq (l : List S33) {i : Nat} (h : i < l.length) : rd_T33 l (i : Int) = l[i] := by
  unfold rd_T33; rw [Int.toNat_natCast, List.getD_eq_getElem?_getD, List.getElem?_eq_getElem h]; rfl
theorem rd33_at (l : List S33) {i : Nat} (h : i < l.length) : rd_T33 l (i : Int) ∈ l := by rw [rd33_eq l h]; exact List.getElem_mem h
theorem take33 (l : List S33) {i : Nat} (h : i < l.length) : l.take (i + 1) = l.take i ++ [rd_T33 l (i : Int)] := by
  rw [rd33_eq l h, List.take_succ_eq_append_getElem h]
set_option maxHeartbeats 4000000 in
set_option maxRecDepth 100000 in
theorem first_calls (b : Nat) (e y : S33) (w : World) (hb : w.heap[b]? = some (oS33 e)) :
    Calls Tryd.prog 28 #[vS33 y, .pointer (some ⟨b, 0, none⟩)] w fun x w' => x = .returned (.bool (aheadB y e)) ∧ Below w.heap.size w w' := by
  obtain ⟨c0, c1, c2, c3, c4, c5, c6, c7⟩ := cells_event hb
  have hlt := blk_lt hb
  unfold vS33
  go_enter Tryd.func28, Tryd.ntmps28
  go_wp2_with (first | (go_at_call 29; refine (history_ahead.calls _ _ _ _ _ _ _ _ _ _ _ _ _ _ _ _ (aheadB y e) _ (ahead_some y e)).mono ?_))
  rintro x w1 ⟨rfl, hb1⟩
  go_wp2
  go_ret
  exact ⟨rfl, below_then (below_alloc (Below.refl _ _) _) (by simp) hb1⟩
set_option maxHeartbeats 4000000 in
set_option maxRecDepth 100000 in
theorem index_calls (A0 : Option Addr) (c0 : Nat) (l : List S33) (b : Nat) (e : S33) (w : World) (hr0 : Kd.C k33 w A0 l.length l) (hb : w.heap[b]? = some (oS33 e)) (hl : l.length < 1000000) :
    Calls Tryd.prog 47 #[.slice A0 l.length c0, .func (.func 28) #[] #[.pointer (some ⟨b, 0, none⟩)]] w fun x w' => ∃ i : Int, x = .returned (.int .i64 i) ∧ (0 ≤ i ↔ ∃ y ∈ l, aheadB y e = true) ∧ Below w.heap.size w w' := by
  have HR0 := Aside0.mk hr0
  have HE := Aside0.mk hb
  clear hr0 hb
  have HB0 := Aside0.mk (Below.refl w.heap.size w)
  go_enter Tryd.func47, Tryd.ntmps47
  go_wp2
  go_loopg [8] (l.length + 1) (fun gk v8 wr => ∃ (i : Nat), v8 = .int .i64 i ∧ i ≤ l.length ∧ l.length - i < gk ∧ Aside0 (∀ y ∈ l.take i, aheadB y e = false) ∧ Aside0 (Below w.heap.size w wr))
  case atStart => exact ⟨0, rfl, by omega, by omega, ⟨by simp⟩, HB0⟩
  case round =>
    clear HB0
    obtain ⟨i, rfl, i1, hg, HN, HB⟩ := hrel
    by_cases hlt : i < l.length
    · have hlt' : decide ((i : Int) < (l.length : Int)) = true := decide_eq_true (by omega)
      obtain ⟨ad, e1, g0, g1, g2, g3, g4, g5, g6, g7⟩ := at_T33 (Kd.C_below HR0.out HB.out) (i : Int) (by omega) (by omega)
      subst e1
      rw [Int.toNat_natCast] at g0 g1 g2 g3 g4 g5 g6 g7
      have HEr := Aside0.mk (blk_below HE.out HB.out)
      have hge := Aside0.mk (rd33_at l hlt)
      cases hbit : aheadB (rd_T33 l (i : Int)) e with
      | true =>
        go_wp2_with fail
        refine (first_calls b e (rd_T33 l (i : Int)) wr HEr.out).mono ?_
        rw [hbit]
        rintro x w1 ⟨rfl, hb1⟩
        have HB1 : Aside0 (Below w.heap.size w w1) := ⟨below_then HB.out HB.out.size hb1⟩
        clear hb1
        go_wp2
        go_ret
        exact ⟨_, rfl, ⟨fun _ => ⟨_, hge.out, hbit⟩, fun _ => by omega⟩, HB1.out⟩
      | false =>
        go_wp2_with fail
        refine (first_calls b e (rd_T33 l (i : Int)) wr HEr.out).mono ?_
        rw [hbit]
        rintro x w1 ⟨rfl, hb1⟩
        have HB1 : Aside0 (Below w.heap.size w w1) := ⟨below_then HB.out HB.out.size hb1⟩
        clear hb1
        go_wp2
        go_roundg (gk - 1)
        case measure => omega
        case rel =>
          refine ⟨i + 1, by go_num, by omega, by omega, ⟨?_⟩, HB1⟩
          intro y hy
          rw [take33 l hlt] at hy
          rcases List.mem_append.1 hy with hy | hy
          · exact HN.out y hy
          · rw [List.mem_singleton.1 hy]; exact hbit
    · have hlt' : decide ((i : Int) < (l.length : Int)) = false := decide_eq_false (by omega)
      go_wp2
      go_ret
      refine ⟨_, rfl, ⟨fun h => absurd h (by decide), ?_⟩, HB.out⟩
      rintro ⟨y, hy, hy'⟩
      rw [HN.out y (by rw [List.take_of_length_le (by omega)]; exact hy)] at hy'
      cases hy'
set_option maxHeartbeats 4000000 in
set_option maxRecDepth 100000 in
theorem contains_calls (A0 : Option Addr) (c0 : Nat) (l : List S33) (b : Nat) (e : S33) (w : World) (hr0 : Kd.C k33 w A0 l.length l) (hb : w.heap[b]? = some (oS33 e)) (hl : l.length < 1000000) :
    Calls Tryd.prog 30 #[.slice A0 l.length c0, .func (.func 28) #[] #[.pointer (some ⟨b, 0, none⟩)]] w fun x w' => x = .returned (.bool (l.any fun y => aheadB y e)) ∧ Below w.heap.size w w' := by
  have HR0 := Aside0.mk hr0
  have HE := Aside0.mk hb
  clear hr0 hb
  go_enter Tryd.func30, Tryd.ntmps30
  go_wp2_with (first | (go_at_call 47; refine (index_calls A0 c0 l b e _ HR0.out HE.out hl).mono ?_))
  rintro x w1 ⟨i, rfl, hi, hb1⟩
  have hd : decide (0 ≤ i) = l.any fun y => aheadB y e := by
    rw [Bool.eq_iff_iff, decide_eq_true_eq, List.any_eq_true, hi]
  have hd := Aside0.mk hd
  clear hi
  go_wp2
  go_ret
  refine ⟨?_, hb1⟩
  rw [← hd.out]; rfl
end Go.Proofs.YtakhipedjccpkaaDoor.PH
