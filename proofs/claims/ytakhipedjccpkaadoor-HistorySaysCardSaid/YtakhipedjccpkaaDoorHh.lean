/- history.begun: what it answers. Conditions: none. -/
import Derived.Test.YtakhipedjccpkaaDoorHe
namespace Go.Proofs.YtakhipedjccpkaaDoor.PH
open Go.RowKit Go.Proofs.YtakhipedjccpkaaDoorW.PrintWords Go.Proofs.YtakhipedjccpkaaDoorW.PrintLast Go.Proofs.YtakhipedjccpkaaDoorW.PrintMore
open Go.Maps
set_option linter.unusedVariables false
set_option linter.unusedSimpArgs false

theorem V_blk {w : World} {b base : Nat} {xs : List Int} {ok : Nat → Prop} (h : w.heap[b]? = some (.cells (xs.map (Value.int .i64)).toArray 3 (0, 0))) (hok : ok b) (hm : xs.length ≤ 9223372036854775807) : Kd.V (Kd.int .i64) 3 w base ok (.slice (some ⟨b, 0, none⟩) xs.length xs.length) xs := by
  refine Kd.V_mk (Nat.le_refl _) (fun W' hW => ⟨rfl, hm, fun _ => ⟨_, rfl, fun j p hp => ⟨[.int .i64 p], rfl, rfl, fun i u hu => ?_⟩⟩⟩)
  have hb := (hW b hok (blk_lt h)).trans h
  rw [add_plain, blk_cell hb]
  have hi : i = 0 := by
    have := (List.getElem?_eq_some_iff.1 hu).1
    simpa using this
  subst hi
  simp at hu
  subst hu
  show (xs.map (Value.int .i64)).toArray[j * 1 + 0]? = _
  simp [hp]
/-- There is such an object. -/
def Begun (n start : Int) : Prop := n = 1 ∨ (n = 2 ∧ start = 0) ∨ n = 3 ∨ (n = 4 ∧ 0 ≤ start) ∨ (n = 5 ∧ 1 ≤ start ∧ start ≤ 1000)
instance (n start : Int) : Decidable (Begun n start) := by unfold Begun; infer_instance
def state0 (n start : Int) : List Int := if n = 2 then [] else if n = 5 then List.replicate (3 * start.toNat) 0 else [start]
theorem state0_ok {n start : Int} (h : Begun n start) (hs : I64 start) {m : Nat} (hm : m ≤ 12) : Sok n m (state0 n start) := by
  unfold state0
  have z : I64 0 := ⟨by decide, by decide⟩
  rcases h with rfl | ⟨rfl, h⟩ | rfl | ⟨rfl, h⟩ | ⟨rfl, h, h'⟩
  · exact ⟨by intro x hx; simp at hx; subst hx; exact hs, by omega, by simp, by simp, by simp, by simp⟩
  · exact ⟨by simp, by omega, by simp, by simp; omega, by simp, by simp⟩
  · exact ⟨by intro x hx; simp at hx; subst hx; exact hs, by omega, by simp, by simp, by simp, by simp⟩
  · exact ⟨by intro x hx; simp at hx; subst hx; exact hs, by omega, by simp, by simp, by simp [rd]; exact h, by simp⟩
  · refine ⟨?_, by omega, by simp, by simp, by simp, fun _ => ⟨start.toNat, by simp, by omega, by omega⟩⟩
    intro x hx
    simp at hx
    rw [hx.2]; exact z
def noFn (n : Int) : Value := if n = 2 then .func (.func 39) #[] #[] else if n = 4 then .func (.func 41) #[] #[] else .nilFunc
structure BegunPost (n start : Int) (w : World) (e : Ending) (w' : World) : Prop where
  out : ∃ fv A k c, e = .returned (.tuple #[fv, .slice A k c, .bool (decide (Begun n start))]) ∧ Below w.heap.size w w' ∧ (¬ Begun n start → fv = noFn n) ∧ (Begun n start → fv = .func (.func (objFn n)) #[] #[] ∧ k = (state0 n start).length ∧ Kd.V (Kd.int .i64) 3 w' 0 (fun b => w.heap.size ≤ b) (.slice A k c) (state0 n start))
theorem made_zero {s : List Int} (n : Nat) (h : s = List.replicate n 0) : madeCells #[.int .i64 0] n = (s.map (Value.int .i64)).toArray := by
  subst h
  apply Array.toList_inj.1
  rw [toList_madeCells_one]; simp
set_option maxHeartbeats 4000000 in
set_option maxRecDepth 100000 in
theorem begun_calls (n start : Int) (w : World) : Calls Tryd.prog 24 #[.int .i64 n, .int .i64 start] w fun e w' => BegunPost n start w e w' := by
  have V1 : Kd.V (Kd.int .i64) 3 (w.alloc (.cells #[.int .i64 start] 3)) 0 (fun b => w.heap.size ≤ b) (.slice (some ⟨w.heap.size, 0, none⟩) 1 1) [start] := V_blk (xs := [start]) (blk_new w (.cells #[.int .i64 start] 3)) (Nat.le_refl _) (by simp)
  have B1 : Below w.heap.size w (w.alloc (.cells #[.int .i64 start] 3)) := below_alloc (Below.refl _ _) _
  have HV1 := Aside0.mk V1
  have HB1 := Aside0.mk B1
  clear V1 B1
  by_cases n1 : n = 1
  · subst n1
    go_enter Tryd.func24, Tryd.ntmps24
    go_wp2
    go_ret3
    exact ⟨_, _, _, _, rfl, HB1.out, (fun h => by first | rfl | exact absurd (by unfold Begun; omega) h), fun _ => ⟨rfl, rfl, HV1.out⟩⟩
  by_cases n2 : n = 2
  · subst n2
    go_enter Tryd.func24, Tryd.ntmps24
    go_wp2
    go_ret3
    refine ⟨_, _, _, _, by first | rfl | (rw [show (start == 0) = decide (Begun 2 start) by rw [Bool.eq_iff_iff]; simp [Begun]]; rfl), Below.refl _ _, (fun h => by first | rfl | exact absurd (by unfold Begun; omega) h), fun _ => ⟨rfl, rfl, Kd.V_nil _ _ _ _ _⟩⟩
  by_cases n3 : n = 3
  · subst n3
    go_enter Tryd.func24, Tryd.ntmps24
    go_wp2
    go_ret3
    exact ⟨_, _, _, _, rfl, HB1.out, (fun h => by first | rfl | exact absurd (by unfold Begun; omega) h), fun _ => ⟨rfl, rfl, HV1.out⟩⟩
  by_cases n4 : n = 4
  · subst n4
    go_enter Tryd.func24, Tryd.ntmps24
    go_wp2
    go_ret3
    refine ⟨_, _, _, _, by first | rfl | (rw [show decide (0 ≤ start) = decide (Begun 4 start) by rw [Bool.eq_iff_iff]; simp [Begun]]; rfl), HB1.out, (fun h => by first | rfl | exact absurd (by unfold Begun; omega) h), fun _ => ⟨rfl, rfl, HV1.out⟩⟩
  by_cases n5 : n = 5
  · subst n5
    by_cases h1 : 1 ≤ start
    · have h1' : decide (1 ≤ start) = true := decide_eq_true h1
      by_cases h2 : start ≤ 1000
      · have h2' : decide (start ≤ 1000) = true := decide_eq_true h2
        have hmk : ∀ W : World, (Instr.makeSlice 47 (.int .i64 (3 * start)) (.int .i64 (3 * start))).run Tryd.prog W = .ok (.slice (some ⟨W.heap.size, 0, none⟩) (3 * start).toNat (3 * start).toNat) (W.alloc (.cells (madeCells #[.int .i64 0] ((3 * start).toNat)) 3)) := by
          intro W
          obtain ⟨i0, hi, hzz⟩ := Option.map_eq_some_iff.1 info3
          simp only [Prod.mk.injEq] at hzz
          obtain ⟨hz0, hz1, hz2⟩ := hzz
          have := run_make (P := Tryd.prog) W 47 3 i0 _ Tryd.underlying47 hi hz0 .i64 .i64 (3 * start) (3 * start) (by omega) (by omega) (by rw [hz2]; omega) (by omega)
          rw [this, hz1]
          simp [Value.cells]
        go_enter Tryd.func24, Tryd.ntmps24
        go_wp2
        go_region
        go_wp2
        go_ret3
        refine ⟨_, _, _, _, by rw [show decide (Begun 5 start) = true from decide_eq_true (by unfold Begun; omega)]; rfl, (below_alloc (Below.refl _ _) _).drew, (fun h => by first | rfl | exact absurd (by unfold Begun; omega) h), fun _ => ⟨rfl, ?_, ?_⟩⟩
        · simp [state0]; omega
        · have e : (3 * start).toNat = (state0 5 start).length := by simp [state0]; omega
          have hb : (w.alloc (.cells (madeCells #[.int .i64 0] ((3 * start).toNat)) 3)).drew.heap[w.heap.size]? = some (.cells ((state0 5 start).map (Value.int .i64)).toArray 3 (0, 0)) := by
            rw [← made_zero (3 * start).toNat (by simp [state0]; omega)]
            exact blk_new w (.cells (madeCells #[.int .i64 0] ((3 * start).toNat)) 3)
          rw [e] at hb ⊢
          exact V_blk hb (Nat.le_refl _) (by rw [← e]; omega)
      · have h2' : decide (start ≤ 1000) = false := decide_eq_false h2
        go_enter Tryd.func24, Tryd.ntmps24
        go_wp2
        go_ret3
        exact ⟨_, _, _, _, by first | rfl | (rw [show false = decide (Begun 5 start) by rw [Bool.eq_iff_iff]; simp [Begun]; omega]; rfl), Below.refl _ _, (fun _ => by unfold noFn; first | rfl | (rw [if_neg n2, if_neg n4]; rfl)), fun h => absurd h (by unfold Begun; omega)⟩
    · have h1' : decide (1 ≤ start) = false := decide_eq_false h1
      go_enter Tryd.func24, Tryd.ntmps24
      go_wp2
      go_ret3
      exact ⟨_, _, _, _, by first | rfl | (rw [show false = decide (Begun 5 start) by rw [Bool.eq_iff_iff]; simp [Begun]; omega]; rfl), Below.refl _ _, (fun _ => by unfold noFn; first | rfl | (rw [if_neg n2, if_neg n4]; rfl)), fun h => absurd h (by unfold Begun; omega)⟩
  go_enter Tryd.func24, Tryd.ntmps24
  go_wp2
  go_ret3
  exact ⟨_, _, _, _, by rw [show decide (Begun n start) = false from decide_eq_false (by unfold Begun; omega)]; rfl, Below.refl _ _, (fun _ => by unfold noFn; first | rfl | (rw [if_neg n2, if_neg n4]; rfl)), fun h => absurd h (by unfold Begun; omega)⟩
end Go.Proofs.YtakhipedjccpkaaDoor.PH
