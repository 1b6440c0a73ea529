/- butlerlaw11.Lent, Kept, Spoil, owned: what their calls come to. Conditions: the sizes are those of a machine. -/
import Derived.Test.YtgahkloigbhgdaaRia
import Derived.Laws.CopyOwn
import Derived.Test.YtgahkloigbhgdaaPS4
import Derived.Deep.Upon
import Derived.Deep.AppendLies
namespace Go.Proofs.Ytgahkloigbhgdaa.PR
open Go.RowKit Go.Proofs.YtgahkloigbhgdaaW.PrintWords Go.Proofs.YtgahkloigbhgdaaW.PrintLast Go.Proofs.YtgahkloigbhgdaaW.PrintMore
set_option linter.unusedVariables false
set_option linter.unusedSimpArgs false

/-- The lent recipes in memory, the first i of them laid. -/
structure LM (w0 : World) (g : Nat) (l : List S43) (i : Nat) (b : Nat → Nat) (w : World) : Prop where
  low : Below g w0 w
  hg : ∃ cs, w.heap[g]? = some (.cells cs 43 (0, 0)) ∧ cs.size = (l.length + 1) * 5
  row : ∀ j : Nat, j < i → w.cell? ⟨g, j * 5, none⟩ = some (.slice (some ⟨b j, 0, none⟩) (nds l j).length ((nds l j).length + 2)) ∧ w.cell? ⟨g, j * 5 + 1, none⟩ = some (.int .i64 (rd_T43 l j).f1) ∧ w.cell? ⟨g, j * 5 + 2, none⟩ = some (.int .i64 (rd_T43 l j).f2) ∧
    w.cell? ⟨g, j * 5 + 3, none⟩ = some (.int .i64 (rd_T43 l j).f3) ∧ w.cell? ⟨g, j * 5 + 4, none⟩ = some (.int .i64 (rd_T43 l j).f4)
  lo : ∀ j, j < i → g < b j ∧ b j < w.heap.size
  inc : ∀ j k, j < k → k < i → b j < b k
  blk : ∀ j : Nat, j < i → w.heap[b j]? = some (.cells (nums .i64 (nds l j ++ [-71, -72])).toArray 3 (0, 0))
theorem LM.place {w0 : World} {g : Nat} {l : List S43} {i : Nat} {b : Nat → Nat} {w : World} (h : LM w0 g l i b w) (o : Nat) (ho : o < (l.length + 1) * 5) : (∃ v, w.cell? ⟨g, o, none⟩ = some v) ∧ w.frozen? ⟨g, o, none⟩ = false := by
  obtain ⟨cs, hc, hs⟩ := h.hg
  exact ⟨⟨cs[o], by simp [World.cell?, hc, hs, ho]⟩, by simp [World.frozen?, hc]⟩

theorem cell_off {w : World} {g o o' : Nat} {v : Value} (h : o ≠ o') : (w.setCell ⟨g, o, none⟩ v).cell? ⟨g, o', none⟩ = w.cell? ⟨g, o', none⟩ :=
  World.cell?_setCell_other _ _ _ _ (by intro e; injection e with _ e; exact h e)
theorem LM.set {w0 : World} {g : Nat} {l : List S43} {i : Nat} {b : Nat → Nat} {w : World} (h : LM w0 g l i b w) (o : Nat) (ho : i * 5 ≤ o) (v : Value) : LM w0 g l i b (w.setCell ⟨g, o, none⟩ v) := by
  obtain ⟨cs, hc, hs⟩ := h.hg
  refine ⟨h.low.setCell (Nat.le_refl _) v, ⟨_, setCell_here hc, by simpa using hs⟩, fun j hj => ?_, fun j hj => by simpa using h.lo j hj, h.inc, fun j hj => ?_⟩
  · obtain ⟨a0, a1, a2, a3, a4⟩ := h.row j hj
    exact ⟨(cell_off (by omega)).trans a0, (cell_off (by omega)).trans a1, (cell_off (by omega)).trans a2, (cell_off (by omega)).trans a3, (cell_off (by omega)).trans a4⟩
  · exact (Below.heap_setCell _ _ _ _ (by have := h.lo j hj; show b j ≠ g; omega)).trans (h.blk j hj)
theorem LM.later {w0 : World} {g : Nat} {l : List S43} {i : Nat} {b : Nat → Nat} {w w' : World} (h : LM w0 g l i b w) (hg : g < w.heap.size) (hb : Below w.heap.size w w') : LM w0 g l i b w' := by
  obtain ⟨cs, hc, hs⟩ := h.hg
  have keep : ∀ o, w'.cell? ⟨g, o, none⟩ = w.cell? ⟨g, o, none⟩ := fun o => hb.cell hg
  refine ⟨h.low.trans (hb.mono (by omega)), ⟨_, (hb.block g hg).trans hc, hs⟩, fun j hj => ?_, fun j hj => ?_, h.inc, fun j hj => ?_⟩
  · simp only [keep]; exact h.row j hj
  · have := h.lo j hj; have := hb.size; omega
  · exact (hb.block _ (h.lo j hj).2).trans (h.blk j hj)
theorem LM.next {w0 : World} {g : Nat} {l : List S43} {i : Nat} {b : Nat → Nat} {w : World} (h : LM w0 g l i b w) (k : Nat) (hlo : ∀ j, j < i → b j < k) (hk : g < k ∧ k < w.heap.size)
    (hr : w.cell? ⟨g, i * 5, none⟩ = some (.slice (some ⟨k, 0, none⟩) (nds l i).length ((nds l i).length + 2)) ∧ w.cell? ⟨g, i * 5 + 1, none⟩ = some (.int .i64 (rd_T43 l i).f1) ∧ w.cell? ⟨g, i * 5 + 2, none⟩ = some (.int .i64 (rd_T43 l i).f2) ∧
      w.cell? ⟨g, i * 5 + 3, none⟩ = some (.int .i64 (rd_T43 l i).f3) ∧ w.cell? ⟨g, i * 5 + 4, none⟩ = some (.int .i64 (rd_T43 l i).f4))
    (hb : w.heap[k]? = some (.cells (nums .i64 (nds l i ++ [-71, -72])).toArray 3 (0, 0))) : LM w0 g l (i + 1) (fun j => if j = i then k else b j) w := by
  refine ⟨h.low, h.hg, fun j hj => ?_, fun j hj => ?_, fun j m hjm hm => ?_, fun j hj => ?_⟩
  · by_cases e : j = i
    · subst e; rw [if_pos rfl]; exact hr
    · rw [if_neg e]; exact h.row j (by omega)
  · by_cases e : j = i
    · rw [if_pos e]; exact hk
    · rw [if_neg e]; exact h.lo j (by omega)
  · rw [if_neg (show j ≠ i by omega)]
    by_cases e : m = i
    · rw [if_pos e]; exact hlo j (by omega)
    · rw [if_neg e]; exact h.inc j m hjm (by omega)
  · by_cases e : j = i
    · subst e; rw [if_pos rfl]; exact hb
    · rw [if_neg e]; exact h.blk j (by omega)

theorem row5 {w : World} {g o : Nat} {q0 q1 q2 q3 q4 v0 v1 v2 v3 v4 : Value} (p0 : w.cell? ⟨g, o, none⟩ = some q0) (p1 : w.cell? ⟨g, o + 1, none⟩ = some q1) (p2 : w.cell? ⟨g, o + 2, none⟩ = some q2) (p3 : w.cell? ⟨g, o + 3, none⟩ = some q3) (p4 : w.cell? ⟨g, o + 4, none⟩ = some q4)
    {w1 : World} (e : w1 = ((((w.setCell ⟨g, o, none⟩ v0).setCell ⟨g, o + 1, none⟩ v1).setCell ⟨g, o + 2, none⟩ v2).setCell ⟨g, o + 3, none⟩ v3).setCell ⟨g, o + 4, none⟩ v4) :
    w1.cell? ⟨g, o, none⟩ = some v0 ∧ w1.cell? ⟨g, o + 1, none⟩ = some v1 ∧ w1.cell? ⟨g, o + 2, none⟩ = some v2 ∧ w1.cell? ⟨g, o + 3, none⟩ = some v3 ∧ w1.cell? ⟨g, o + 4, none⟩ = some v4 := by
  subst e
  refine ⟨?_, ?_, ?_, ?_, ?_⟩
  · rw [cell_off (by omega), cell_off (by omega), cell_off (by omega), cell_off (by omega)]; exact World.cell?_setCell_same _ _ _ p0
  · rw [cell_off (by omega), cell_off (by omega), cell_off (by omega)]; exact World.cell?_setCell_same _ _ _ ((cell_off (by omega)).trans p1)
  · rw [cell_off (by omega), cell_off (by omega)]; exact World.cell?_setCell_same _ _ _ ((cell_off (by omega)).trans ((cell_off (by omega)).trans p2))
  · rw [cell_off (by omega)]; exact World.cell?_setCell_same _ _ _ ((cell_off (by omega)).trans ((cell_off (by omega)).trans ((cell_off (by omega)).trans p3)))
  · exact World.cell?_setCell_same _ _ _ ((cell_off (by omega)).trans ((cell_off (by omega)).trans ((cell_off (by omega)).trans ((cell_off (by omega)).trans p4))))

theorem nums_one {xs : List Int} : ∀ v ∈ nums .i64 xs, v.oneCell' = true := by
  intro v hv
  simp only [nums, List.mem_map] at hv
  obtain ⟨_, _, rfl⟩ := hv
  rfl
theorem src_cells {w0 : World} {A : Option Addr} {xs : List Int} (N : Nat) (h : (Kd.int .i64).C w0 A xs.length xs) (w : World) (hb : Below w0.heap.size w0 w) : 0 < (nums .i64 xs).length → some (⟨N, 0, none⟩ : Addr) = some ⟨N, 0, none⟩ ∧ ∃ ad, A = some ad ∧ ∀ (j : Nat) v, (nums .i64 xs)[j]? = some v → w.cell? (ad.add j) = some v := by
  intro hp
  rw [nums_length] at hp
  obtain ⟨ad, rfl, _⟩ := Kd.at_int h 0 (by omega) (by omega)
  refine ⟨rfl, ad, rfl, fun j v hv => ?_⟩
  have hj : j < xs.length := by have := (List.getElem?_eq_some_iff.1 hv).1; rwa [nums_length] at this
  obtain ⟨ad', e, hc⟩ := Kd.at_int h (j : Int) (by omega) (by omega)
  cases e
  rw [Int.toNat_natCast] at hc
  rw [pw_cell_below hb hc, ← hv]
  simp [nums, rd, hj]

theorem lent_block {w : World} {k : Nat} {xs : List Int} (h : w.heap[k]? = some (.cells (splice (List.replicate (xs.length + 2) (Value.int .i64 0)) 0 (nums .i64 xs)).toArray 3 (0, 0))) : w.heap[k]? = some (.cells (nums .i64 (xs ++ [0, 0])).toArray 3 (0, 0)) := by
  rw [h]
  have : splice (List.replicate (xs.length + 2) (Value.int .i64 0)) 0 (nums .i64 xs) = nums .i64 (xs ++ [0, 0]) := by
    simp [splice, nums, List.drop_replicate]
  rw [this]
theorem row5_below {w w1 : World} {g o : Nat} {v0 v1 v2 v3 v4 : Value} (h : w.cell? ⟨g, o, none⟩ = some v0 ∧ w.cell? ⟨g, o + 1, none⟩ = some v1 ∧ w.cell? ⟨g, o + 2, none⟩ = some v2 ∧ w.cell? ⟨g, o + 3, none⟩ = some v3 ∧ w.cell? ⟨g, o + 4, none⟩ = some v4) (hb : Below w.heap.size w w1) (hg : g < w.heap.size) :
    w1.cell? ⟨g, o, none⟩ = some v0 ∧ w1.cell? ⟨g, o + 1, none⟩ = some v1 ∧ w1.cell? ⟨g, o + 2, none⟩ = some v2 ∧ w1.cell? ⟨g, o + 3, none⟩ = some v3 ∧ w1.cell? ⟨g, o + 4, none⟩ = some v4 := by
  obtain ⟨a, b, c, d, e⟩ := h
  exact ⟨pw_cell_below hb a, pw_cell_below hb b, pw_cell_below hb c, pw_cell_below hb d, pw_cell_below hb e⟩
theorem num_cell {w : World} {k t o : Nat} {xs : List Int} (h : w.heap[k]? = some (.cells (nums .i64 xs).toArray t (0, 0))) (ho : o < xs.length) : w.cell? ⟨k, o, none⟩ = some (.int .i64 (rd xs o)) ∧ w.frozen? ⟨k, o, none⟩ = false := by
  refine ⟨?_, by simp [World.frozen?, h]⟩
  rw [blk_cell h]
  simp [nums, rd, ho]
theorem num_set {w : World} {k t o : Nat} {xs : List Int} (h : w.heap[k]? = some (.cells (nums .i64 xs).toArray t (0, 0))) (v : Int) : (w.setCell ⟨k, o, none⟩ (.int .i64 v)).heap[k]? = some (.cells (nums .i64 (xs.set o v)).toArray t (0, 0)) := by
  rw [setCell_here h]
  simp [nums, List.map_set]

theorem set_two {xs : List Int} : ((xs ++ [0, 0]).set xs.length (-71)).set (xs.length + 1) (-72) = xs ++ [-71, -72] := by
  rw [List.set_append_right _ _ (Nat.le_refl _), List.set_append_right _ _ (by omega)]
  simp
/-- What the lending leaves. -/
structure LentPost (l : List S43) (w : World) (e : Ending) (w' : World) : Prop where
  out : ∃ v, e = .returned v ∧ ∃ b, LM w w.heap.size l l.length b w' ∧ w'.cell? ⟨w.heap.size, l.length * 5 + 2, none⟩ = some (.int .i64 (-73)) ∧ v = .slice (some ⟨w.heap.size, 0, none⟩) l.length (l.length + 1)
set_option maxHeartbeats 8000000 in
set_option maxRecDepth 100000 in
theorem lent_calls (A0 : Option Addr) (c0 : Nat) (l : List S43) (w : World) (hr0 : Kd.C k43 w A0 l.length l) (hc0 : l.length ≤ c0) (hn : 56 * (l.length + 1) ≤ 281474976710656) (hk : ∀ k, 0 ≤ k → k < (l.length : Int) → 8 * ((nds l k).length + 2) ≤ 281474976710656) :
    Calls Try.prog 10 #[.slice A0 l.length c0] w fun e w' => LentPost l w e w' := by
  have HR0 := Aside0.mk hr0
  have HC0 := Aside0.mk hc0
  have HK := Aside0.mk hk
  clear hr0 hc0 hk
  have hmk : ∀ W : World, (Instr.makeSlice 25 (.int .i64 ((l.length : Int) + 1)) (.int .i64 ((l.length : Int) + 1))).run Try.prog W = .ok (.slice (some ⟨W.heap.size, 0, none⟩) (l.length + 1) (l.length + 1)) (W.alloc (.cells (madeCells #[.slice none 0 0, .int .i64 0, .int .i64 0, .int .i64 0, .int .i64 0] ((l.length + 1) * 5)) 43)) := by
    intro W
    obtain ⟨i0, hi, hzz⟩ := Option.map_eq_some_iff.1 info43
    simp only [Prod.mk.injEq] at hzz
    obtain ⟨hz0, hz1, hz2⟩ := hzz
    have := run_make (P := Try.prog) W 25 43 i0 _ Try.underlying25 hi hz0 .i64 .i64 ((l.length : Int) + 1) ((l.length : Int) + 1) (by omega) (by omega) (by rw [hz2]; omega) (by omega)
    rw [this, hz1]
    rfl
  have HZ := Aside0.mk (blk_new w (.cells (madeCells #[.slice none 0 0, .int .i64 0, .int .i64 0, .int .i64 0, .int .i64 0] ((l.length + 1) * 5)) 43))
  go_enter Try.func10, Try.ntmps10
  go_wp2
  clear hmk
  go_loopg [4] (l.length + 1) (fun gk v4 wr => ∃ (i : Nat) (b : Nat → Nat), v4 = .int .i64 i ∧ i ≤ l.length ∧ Aside0 (l.length - i < gk) ∧ Aside0 (LM w w.heap.size l i b wr))
  case atStart =>
    exact ⟨0, fun _ => 0, rfl, by omega, ⟨by omega⟩, ⟨(Below.refl _ _).alloc (Nat.le_refl _) _, ⟨_, HZ.out, by simp [size_madeCells]⟩, fun _ h => by omega, fun _ h => by omega, fun _ _ _ h => by omega, fun _ h => by omega⟩⟩
  case round =>
    obtain ⟨i, b, rfl, i1, HG, HM⟩ := hrel
    by_cases hlt : i < l.length
    · obtain ⟨ad, A1, c1, e1, g0, g1, g2, g3, g4, gl, gC⟩ := at_T43 HR0.out (i : Int) (by omega) (by omega)
      subst e1
      have G0 := g0
      have g0 := pw_cell_below HM.out.low g0
      have g1 := pw_cell_below HM.out.low g1
      have g2 := pw_cell_below HM.out.low g2
      have g3 := pw_cell_below HM.out.low g3
      have g4 := pw_cell_below HM.out.low g4
      rw [Int.toNat_natCast] at g0 g1 g2 g3 g4
      have hlt' : decide ((i : Int) < (l.length : Int)) = true := decide_eq_true (by omega)
      obtain ⟨⟨q0, p0⟩, f0⟩ := HM.out.place (i * 5) (by omega)
      obtain ⟨⟨q1, p1⟩, f1⟩ := HM.out.place (i * 5 + 1) (by omega)
      obtain ⟨⟨q2, p2⟩, f2⟩ := HM.out.place (i * 5 + 2) (by omega)
      obtain ⟨⟨q3, p3⟩, f3⟩ := HM.out.place (i * 5 + 3) (by omega)
      obtain ⟨⟨q4, p4⟩, f4⟩ := HM.out.place (i * 5 + 4) (by omega)
      go_upto_region 6 with (fail)
      obtain ⟨w1, hw1⟩ : ∃ w1, w1 = ((((wr.setCell ⟨w.heap.size, i * 5, none⟩ (.slice A1 (rd_T43 l i).f0.length c1)).setCell ⟨w.heap.size, i * 5 + 1, none⟩ (.int .i64 (rd_T43 l i).f1)).setCell ⟨w.heap.size, i * 5 + 2, none⟩ (.int .i64 (rd_T43 l i).f2)).setCell ⟨w.heap.size, i * 5 + 3, none⟩ (.int .i64 (rd_T43 l i).f3)).setCell ⟨w.heap.size, i * 5 + 4, none⟩ (.int .i64 (rd_T43 l i).f4) := ⟨_, rfl⟩
      rw [← hw1]
      have HM1 : Aside0 (LM w w.heap.size l i b w1) := ⟨by rw [hw1]; exact ((((HM.out.set _ (by omega) _).set _ (by omega) _).set _ (by omega) _).set _ (by omega) _).set _ (by omega) _⟩
      have HR1 := Aside0.mk (row5 p0 p1 p2 p3 p4 hw1)
      have hs1 : w.heap.size < w1.heap.size := by obtain ⟨cs, hc, _⟩ := HM1.out.hg; exact blk_lt hc
      clear p0 p1 p2 p3 p4 f0 f1 f2 f3 f4 g1 g2 g3 g4 hw1
      have G0 := Aside0.mk G0
      have GC := Aside0.mk gC
      have hm := HK.out i (by omega) (by omega)
      have GL := Aside0.mk gl
      clear gl gC
      unfold nds at hm
      have hmk : ∀ W : World, (Instr.makeSlice 26 (.int .i64 (((rd_T43 l (i : Int)).f0.length : Int) + 2)) (.int .i64 (((rd_T43 l (i : Int)).f0.length : Int) + 2))).run Try.prog W = .ok (.slice (some ⟨W.heap.size, 0, none⟩) ((rd_T43 l (i : Int)).f0.length + 2) ((rd_T43 l (i : Int)).f0.length + 2)) (W.alloc (.cells (madeCells #[.int .i64 0] ((rd_T43 l (i : Int)).f0.length + 2)) 3)) := by
        intro W
        obtain ⟨i0, hi, hzz⟩ := Option.map_eq_some_iff.1 info3
        simp only [Prod.mk.injEq] at hzz
        obtain ⟨hz0, hz1, hz2⟩ := hzz
        have := run_make (P := Try.prog) W 26 3 i0 _ Try.underlying26 hi hz0 .i64 .i64 (((rd_T43 l (i : Int)).f0.length : Int) + 2) (((rd_T43 l (i : Int)).f0.length : Int) + 2) (by omega) (by omega) (by rw [hz2]; omega) (by omega)
        rw [this, hz1, show (((rd_T43 l (i : Int)).f0.length : Int) + 2).toNat = (rd_T43 l (i : Int)).f0.length + 2 by omega, Nat.mul_one]
        rfl
      have g0 := pw_cell_below HM1.out.low G0.out
      rw [Int.toNat_natCast] at g0
      go_upto_region 7 with (fail)
      obtain ⟨w2, hw2⟩ : ∃ w2, w2 = w1.alloc (.cells (madeCells #[.int .i64 0] ((rd_T43 l (i : Int)).f0.length + 2)) 3) := ⟨_, rfl⟩
      rw [← hw2]
      have hb2 : Below w1.heap.size w1 w2 := by rw [hw2]; exact (Below.refl _ _).alloc (Nat.le_refl _) _
      have HM2 := Aside0.mk (HM1.out.later hs1 hb2)
      have hB2 : w2.heap[w1.heap.size]? = some (.cells (List.replicate ((rd_T43 l (i : Int)).f0.length + 2) (Value.int .i64 0)).toArray 3 (0, 0)) := by
        rw [hw2, heap_alloc_new]
        have : madeCells #[Value.int .i64 0] ((rd_T43 l (i : Int)).f0.length + 2) = (List.replicate ((rd_T43 l (i : Int)).f0.length + 2) (Value.int .i64 0)).toArray := by
          apply Array.ext
          · simp [size_madeCells]
          · intro j h1 h2; simp [madeCells, Nat.mod_one]
        rw [this]
      have hs2 : w2.heap.size = w1.heap.size + 1 := by rw [hw2]; simp
      have g0 := pw_cell_below HM2.out.low G0.out
      rw [Int.toNat_natCast] at g0
      clear hw2 hmk
      have hcp : (nums .i64 (rd_T43 l (i : Int)).f0).length = Nat.min (rd_T43 l (i : Int)).f0.length ((rd_T43 l (i : Int)).f0.length + 2) ∧ 0 + (nums .i64 (rd_T43 l (i : Int)).f0).length ≤ (List.replicate ((rd_T43 l (i : Int)).f0.length + 2) (Value.int .i64 0)).length := by
        rw [nums_length, List.length_replicate]; exact ⟨(Nat.min_eq_left (by omega)).symm, by omega⟩
      have hcp := Aside0.mk hcp
      have hsrc := src_cells w1.heap.size GC.out
      go_upto_region 8 with (first
        | ((with_reducible refine gate_builtin (b := .copy) (xs := #[.tmp 31, .tmp 36]) rfl ?_); refine wpList_copy_splice rfl (.tmp 31) (.tmp 36) 26 26 rfl 3 Try.underlying26 (by kernel_rfl) (some ⟨w1.heap.size, 0, none⟩) A1 ((rd_T43 l (i : Int)).f0.length + 2) ((rd_T43 l (i : Int)).f0.length + 2) (rd_T43 l (i : Int)).f0.length c1 rfl rfl w1.heap.size 0 (List.replicate ((rd_T43 l (i : Int)).f0.length + 2) (Value.int .i64 0)) 3 hB2 (nums .i64 (rd_T43 l (i : Int)).f0) hcp.out.1 (hsrc w2 HM2.out.low) hcp.out.2 nums_one w1.heap.size w2 (Below.refl _ _) (Nat.le_refl _) ?_; intro w3 HC3 hb3))
      have hB3 := lent_block HC3.out
      have hb13 : Below w1.heap.size w1 w3 := hb2.trans hb3
      have HM3 := Aside0.mk (HM1.out.later hs1 hb13)
      have HR3 := Aside0.mk (row5_below HR1.out hb13 hs1)
      have hs3 : w1.heap.size < w3.heap.size := blk_lt hB3
      have g0 := pw_cell_below HM3.out.low G0.out
      rw [Int.toNat_natCast] at g0
      obtain ⟨p0, f0⟩ := num_cell hB3 (o := (rd_T43 l (i : Int)).f0.length) (by simp)
      obtain ⟨w4, hw4⟩ : ∃ w4, w4 = w3.setCell ⟨w1.heap.size, (rd_T43 l (i : Int)).f0.length, none⟩ (.int .i64 (-71)) := ⟨_, rfl⟩
      clear hB2 HC3 hb2 hb3 hcp hsrc hs2 HM2 HM
      go_upto_region 9 with (fail)
      rw [← hw4]
      have hB4 := num_set (o := (rd_T43 l (i : Int)).f0.length) hB3 (-71)
      rw [← hw4] at hB4
      have hb14 : Below w1.heap.size w1 w4 := by rw [hw4]; exact hb13.setCell (Nat.le_refl _) _
      have HM4 := Aside0.mk (HM1.out.later hs1 hb14)
      have HR4 := Aside0.mk (row5_below HR1.out hb14 hs1)
      have g0 := pw_cell_below HM4.out.low G0.out
      rw [Int.toNat_natCast] at g0
      obtain ⟨p0, f0⟩ := num_cell hB4 (o := (rd_T43 l (i : Int)).f0.length + 1) (by simp)
      obtain ⟨w5, hw5⟩ : ∃ w5, w5 = w4.setCell ⟨w1.heap.size, (rd_T43 l (i : Int)).f0.length + 1, none⟩ (.int .i64 (-72)) := ⟨_, rfl⟩
      clear HM3 HR3 hw4 hB3 hb13 hs3
      go_upto_region 10 with (fail)
      rw [← hw5]
      have hB5 := num_set (o := (rd_T43 l (i : Int)).f0.length + 1) hB4 (-72)
      rw [← hw5] at hB5
      have hb15 : Below w1.heap.size w1 w5 := by rw [hw5]; exact hb14.setCell (Nat.le_refl _) _
      have HM5 := Aside0.mk (HM1.out.later hs1 hb15)
      have HR5 := Aside0.mk (row5_below HR1.out hb15 hs1)
      have g0 := pw_cell_below HM5.out.low G0.out
      rw [Int.toNat_natCast] at g0
      obtain ⟨p0, _⟩ := id HR5.out
      obtain ⟨_, f0⟩ := HM5.out.place (i * 5) (by omega)
      clear HM4 HR4 hw5 hB4 hb14
      obtain ⟨w6, hw6⟩ : ∃ w6, w6 = w5.setCell ⟨w.heap.size, i * 5, none⟩ (.slice (some ⟨w1.heap.size, 0, none⟩) (rd_T43 l (i : Int)).f0.length ((rd_T43 l (i : Int)).f0.length + 2)) := ⟨_, rfl⟩
      have HB5 := Aside0.mk hB5
      have HB15 := Aside0.mk hb15
      clear hB5 hb15
      go_wp2
      rw [← hw6]
      go_roundg (gk - 1)
      case measure => have := HG.out; omega
      case rel =>
        refine ⟨i + 1, fun j => if j = i then w1.heap.size else b j, by go_num, by omega, ⟨by have := HG.out; omega⟩, ⟨?_⟩⟩
        obtain ⟨a0, a1, a2, a3, a4⟩ := HR5.out
        have hse : w6.heap.size = w5.heap.size := by rw [hw6, World.size_setCell]
        refine (hw6 ▸ HM5.out.set (i * 5) (Nat.le_refl _) _ : LM w w.heap.size l i b w6).next w1.heap.size (fun j hj => (HM1.out.lo j hj).2) ⟨hs1, by have := blk_lt HB5.out; omega⟩ ⟨?_, ?_, ?_, ?_, ?_⟩ ?_
        · rw [hw6]; exact World.cell?_setCell_same _ _ _ a0
        · rw [hw6, cell_off (by omega)]; exact a1
        · rw [hw6, cell_off (by omega)]; exact a2
        · rw [hw6, cell_off (by omega)]; exact a3
        · rw [hw6, cell_off (by omega)]; exact a4
        · rw [hw6, Below.heap_setCell _ _ _ _ (show w1.heap.size ≠ w.heap.size by omega), HB5.out]
          rw [set_two]; rfl
    · have hlt' : decide ((i : Int) < (l.length : Int)) = false := decide_eq_false (by omega)
      obtain rfl : i = l.length := by omega
      obtain ⟨⟨q0, p0⟩, f0⟩ := HM.out.place (l.length * 5) (by omega)
      obtain ⟨⟨q1, p1⟩, f1⟩ := HM.out.place (l.length * 5 + 1) (by omega)
      obtain ⟨⟨q2, p2⟩, f2⟩ := HM.out.place (l.length * 5 + 2) (by omega)
      obtain ⟨⟨q3, p3⟩, f3⟩ := HM.out.place (l.length * 5 + 3) (by omega)
      obtain ⟨⟨q4, p4⟩, f4⟩ := HM.out.place (l.length * 5 + 4) (by omega)
      obtain ⟨w1, hw1⟩ : ∃ w1, w1 = ((((wr.setCell ⟨w.heap.size, l.length * 5, none⟩ (.slice none 0 0)).setCell ⟨w.heap.size, l.length * 5 + 1, none⟩ (.int .i64 0)).setCell ⟨w.heap.size, l.length * 5 + 2, none⟩ (.int .i64 (-73))).setCell ⟨w.heap.size, l.length * 5 + 3, none⟩ (.int .i64 0)).setCell ⟨w.heap.size, l.length * 5 + 4, none⟩ (.int .i64 0) := ⟨_, rfl⟩
      have HM1 : Aside0 (LM w w.heap.size l l.length b w1) := ⟨by rw [hw1]; exact ((((HM.out.set _ (by omega) _).set _ (by omega) _).set _ (by omega) _).set _ (by omega) _).set _ (by omega) _⟩
      have HR1 := Aside0.mk (row5 p0 p1 p2 p3 p4 hw1)
      go_wp2
      rw [← hw1]
      go_ret
      exact ⟨⟨_, rfl, b, HM1.out, HR1.out.2.2.1, rfl⟩⟩


def butlerlaw11_Kept.T7 : Bool × List (List Nat × List Nat) := (true, [([], []), ([], []), ([0, 1], [0, 1]), ([2], [2]), ([], []), ([], []), ([4, 5], [4, 5]), ([6], [6]), ([3, 7], [3, 7]), ([8, 8, 0, 1, 2, 3, 4, 5, 6, 7, 8], [8])])
def butlerlaw11_Kept.B7 : List Nat := [0, 0, 3, 7, 0, 0, 48, 112, 255, 511]
theorem butlerlaw11_Kept.tab7 : rtab .any (opsOf Try.f15 7) = butlerlaw11_Kept.T7 := by kernel_rfl
theorem butlerlaw11_Kept.bits7 : waitsOk butlerlaw11_Kept.T7.2 butlerlaw11_Kept.B7 = true := by kernel_rfl
theorem same_self (xs : List Int) (hx : xs.length ≤ 35184372088832) (a b c d : Int) : ∃ k, butlerlaw11_same.f k xs a b c d xs a b c d = some true := by
  have l0 : ∀ (n i : Nat), i + n = xs.length → butlerlaw11_same.l0 (n + 1) i xs a b c d xs a b c d = some true := by
    intro n
    induction n with
    | zero => intro i hi; simp only [butlerlaw11_same.l0]; rw [if_neg (by omega)]
    | succ n ih =>
      intro i hi
      rw [butlerlaw11_same.l0, if_pos (by omega), if_pos (by omega), if_pos (by omega), if_pos rfl, wrap_up (show (0 : Int) ≤ i by omega) (by omega)]
      exact ih (i + 1) (by omega)
  refine ⟨xs.length + 1 + 1, ?_⟩
  unfold butlerlaw11_same.f
  rw [if_pos rfl, if_pos rfl, if_pos rfl, if_pos rfl, butlerlaw11_same.j0, if_neg (by simp)]
  exact l0 xs.length 0 (by omega)
theorem mark1 {xs : List Int} : rd (xs ++ [-71, -72]) ((xs.length : Nat) : Int) = -71 := by simp [rd]
theorem mark2 {xs : List Int} : rd (xs ++ [-71, -72]) ((xs.length + 1 : Nat) : Int) = -72 := by
  simp only [rd, Int.toNat_natCast, List.getD_eq_getElem?_getD]
  rw [List.getElem?_append_right (by omega)]; simp
/-- The lent recipes read as the recipes. -/
theorem LM.reads {w0 w : World} {g : Nat} {l : List S43} {b : Nat → Nat} (h : LM w0 g l l.length b w) (hn : l.length ≤ 9223372036854775807) (hk : ∀ k, 0 ≤ k → k < (l.length : Int) → (nds l k).length ≤ 9223372036854775807) : Kd.C k43 w (some ⟨g, 0, none⟩) l.length l := by
  refine ⟨rfl, hn, fun _ => ⟨_, rfl, fun j p hp => ?_⟩⟩
  have hj : j < l.length := (List.getElem?_eq_some_iff.1 hp).1
  obtain rfl : p = rd_T43 l j := by simp [rd_T43, List.getD_eq_getElem?_getD, hp]
  obtain ⟨a0, a1, a2, a3, a4⟩ := h.row j hj
  have hb := h.blk j hj
  refine ⟨_, rfl, k43_mk w (rd_T43 l j) (A0 := some ⟨b j, 0, none⟩) (c0 := (nds l j).length + 2) (by unfold nds; omega) ⟨rfl, hk j (by omega) (by omega), fun _ => ⟨_, rfl, fun m q hq => ?_⟩⟩, fun i u hu => ?_⟩
  · have hm : m < (nds l j).length := (List.getElem?_eq_some_iff.1 hq).1
    refine ⟨[.int .i64 q], rfl, rfl, fun i u hu => ?_⟩
    have hi : i = 0 := by have := (List.getElem?_eq_some_iff.1 hu).1; simp at this; omega
    subst hi
    simp at hu
    subst hu
    rw [show m * (Kd.int .i64).sz + 0 = m by simp [Kd.int, Kd.scalar], add_plain, (num_cell hb (o := m) (by simp; omega)).1]
    have e : (nds l j)[m]? = some q := hq
    simp only [rd, Int.toNat_natCast, List.getD_eq_getElem?_getD]
    rw [List.getElem?_append_left hm, e]; rfl
  · have hi : i < 5 := by have := (List.getElem?_eq_some_iff.1 hu).1; simpa using this
    rw [show j * k43.sz + i = j * 5 + i from rfl, add_plain]
    match i, hi with
    | 0, _ => simp at hu; subst hu; exact a0
    | 1, _ => simp at hu; subst hu; exact a1
    | 2, _ => simp at hu; subst hu; exact a2
    | 3, _ => simp at hu; subst hu; exact a3
    | 4, _ => simp at hu; subst hu; exact a4

set_option maxHeartbeats 8000000 in
set_option maxRecDepth 100000 in
theorem kept_calls {w0 : World} {g : Nat} {b : Nat → Nat} (A1 : Option Addr) (c1 : Nat) (l : List S43) (w : World) (hL : LM w0 g l l.length b w) (hE : w.cell? ⟨g, l.length * 5 + 2, none⟩ = some (.int .i64 (-73))) (hr1 : Kd.C k43 w A1 l.length l) (hc1 : l.length ≤ c1)
    (hn : 56 * (l.length + 1) ≤ 281474976710656) (hk : ∀ k, 0 ≤ k → k < (l.length : Int) → 8 * ((nds l k).length + 2) ≤ 281474976710656) :
    Calls Try.prog 15 #[.slice (some ⟨g, 0, none⟩) l.length (l.length + 1), .slice A1 l.length c1] w fun e w' => e = .returned (.bool true) ∧ Below w.heap.size w w' := by
  have hgs : g < w.heap.size := by obtain ⟨cs, hc, _⟩ := hL.hg; exact blk_lt hc
  have HR0 := Aside0.mk (hL.reads (by omega) (fun k k0 k1 => by have := hk k k0 k1; omega))
  have HL := Aside0.mk hL
  have HR1 := Aside0.mk hr1
  have HC1 := Aside0.mk hc1
  have HK := Aside0.mk hk
  have HE := Aside0.mk hE
  clear hL hr1 hc1 hk
  go_enter Try.func15, Try.ntmps15
  go_wp2
  have HB0 := Aside0.mk (Below.refl w.heap.size w)
  go_loopg [6] (l.length + 1) (fun gk v6 wr => ∃ (i : Int), v6 = .int .i64 i ∧ 0 ≤ i ∧ i ≤ (l.length : Int) ∧ Aside0 (l.length - i.toNat < gk) ∧ Aside0 (Below w.heap.size w wr))
  case atStart => exact ⟨0, rfl, by omega, by omega, ⟨by omega⟩, HB0⟩
  case round =>
    clear HB0 hE
    obtain ⟨i, rfl, i0, i1, HG, HB⟩ := hrel
    by_cases hlt : i < (l.length : Int)
    · have hlt' : decide (i < (l.length : Int)) = true := decide_eq_true hlt
      have hki := HK.out i i0 hlt
      have KS := same_self (rd_T43 l i).f0 (by unfold nds at hki; omega) (rd_T43 l i).f1 (rd_T43 l i).f2 (rd_T43 l i).f3 (rd_T43 l i).f4
      obtain ⟨KS1, KS2⟩ := KS
      have KS := Aside0.mk KS2
      clear KS2
      obtain ⟨hw198_0, hw198_1, hw198_2, hw198_3, hw198_4⟩ := HL.out.row i.toNat (by omega)
      rw [show (i.toNat : Int) = i by omega] at hw198_0 hw198_1 hw198_2 hw198_3 hw198_4
      obtain ⟨ad199, A199_0, c199_0, e199, hw199_0, hw199_1, hw199_2, hw199_3, hw199_4, hl199_0, hi199_0⟩ := at_T43 HR1.out i i0 hlt
      cases e199
      have HR198_0 := (HL.out.reads (by omega) (fun k k0 k1 => by have := HK.out k k0 k1; omega))
      obtain ⟨adx, Ax, cx, ex, hxx, _, _, _, _, hlx, hix⟩ := at_T43 HR198_0 i i0 hlt
      cases ex
      rw [add_plain] at hxx
      rw [hw198_0] at hxx
      obtain ⟨rfl, _, rfl⟩ : some ⟨b i.toNat, 0, none⟩ = Ax ∧ (nds l i).length = (nds l i).length ∧ (nds l i).length + 2 = cx := by
        injection hxx with hxx; injection hxx with q1 q2 q3; exact ⟨q1, rfl, q3⟩
      have HR198_0 := Aside0.mk hix
      have HC198_0 := Aside0.mk hlx
      have HR199_0 := Aside0.mk hi199_0
      have HC199_0 := Aside0.mk hl199_0
      clear hix hlx hi199_0 hl199_0 hxx
      unfold nds at hw198_0
      go_wp2
      have n0_ := Aside0.mk (below_drew1 HB.out)
      clear HB
      have HB := n0_
      clear n0_
      have hx198_0 := pw_cell_below HB.out hw198_0
      have hx198_1 := pw_cell_below HB.out hw198_1
      have hx198_2 := pw_cell_below HB.out hw198_2
      have hx198_3 := pw_cell_below HB.out hw198_3
      have hx198_4 := pw_cell_below HB.out hw198_4
      have hx199_0 := pw_cell_below HB.out hw199_0
      have hx199_1 := pw_cell_below HB.out hw199_1
      have hx199_2 := pw_cell_below HB.out hw199_2
      have hx199_3 := pw_cell_below HB.out hw199_3
      have hx199_4 := pw_cell_below HB.out hw199_4
      refine start_ (n := 10) (S := fun w' => w'.cell? (⟨g, (i).toNat * 5, none⟩) = some (.slice (some ⟨b i.toNat, 0, none⟩) ((rd_T43 l i).f0).length ((rd_T43 l i).f0.length + 2)) ∧ w'.cell? ⟨g, (i).toNat * 5 + 1, none⟩ = some (.int .i64 ((rd_T43 l i).f1)) ∧ w'.cell? ⟨g, (i).toNat * 5 + 2, none⟩ = some (.int .i64 ((rd_T43 l i).f2)) ∧ w'.cell? ⟨g, (i).toNat * 5 + 3, none⟩ = some (.int .i64 ((rd_T43 l i).f3)) ∧ w'.cell? ⟨g, (i).toNat * 5 + 4, none⟩ = some (.int .i64 ((rd_T43 l i).f4)) ∧ w'.cell? (ad199.add ((i).toNat * 5)) = some (.slice A199_0 ((rd_T43 l i).f0).length c199_0) ∧ w'.cell? ⟨(ad199.add ((i).toNat * 5)).block, (ad199.add ((i).toNat * 5)).off + 1, none⟩ = some (.int .i64 ((rd_T43 l i).f1)) ∧ w'.cell? ⟨(ad199.add ((i).toNat * 5)).block, (ad199.add ((i).toNat * 5)).off + 2, none⟩ = some (.int .i64 ((rd_T43 l i).f2)) ∧ w'.cell? ⟨(ad199.add ((i).toNat * 5)).block, (ad199.add ((i).toNat * 5)).off + 3, none⟩ = some (.int .i64 ((rd_T43 l i).f3)) ∧ w'.cell? ⟨(ad199.add ((i).toNat * 5)).block, (ad199.add ((i).toNat * 5)).off + 4, none⟩ = some (.int .i64 ((rd_T43 l i).f4))) (ds := []) #[false, false, false, false, false, false, false, false, false, false] (by kernel_rfl) rfl rfl ⟨((HB.out.cell (World.block_lt_of_cell? w _ hw198_0)).trans hw198_0), ((HB.out.cell (World.block_lt_of_cell? w _ hw198_1)).trans hw198_1), ((HB.out.cell (World.block_lt_of_cell? w _ hw198_2)).trans hw198_2), ((HB.out.cell (World.block_lt_of_cell? w _ hw198_3)).trans hw198_3), ((HB.out.cell (World.block_lt_of_cell? w _ hw198_4)).trans hw198_4), ((HB.out.cell (World.block_lt_of_cell? w _ hw199_0)).trans hw199_0), ((HB.out.cell (World.block_lt_of_cell? w _ hw199_1)).trans hw199_1), ((HB.out.cell (World.block_lt_of_cell? w _ hw199_2)).trans hw199_2), ((HB.out.cell (World.block_lt_of_cell? w _ hw199_3)).trans hw199_3), ((HB.out.cell (World.block_lt_of_cell? w _ hw199_4)).trans hw199_4)⟩ (fun hHeld => ?_); refine with_tabW butlerlaw11_Kept.tab7 butlerlaw11_Kept.bits7 (fun HT_ HW_ => ?_)
      generalize wr.drew = w25 at HB hx198_0 hx198_1 hx198_2 hx198_3 hx198_4 hx199_0 hx199_1 hx199_2 hx199_3 hx199_4 hHeld ⊢
      refine pure_ (i := 0) (N := some 28) (v := ?_) (a' := ?_) #[true, false, false, false, false, false, false, false, false, false] rfl rfl (any_of HT_.out (by kernel_rfl)) (fun _ _ _ h => h) (Or.inl ⟨by rfl, ?_⟩) ?_ ?_
      rotate_left
      ·intro w'
       go_simp
       with_reducible rfl
      rotate_left
      ·simp only [Act.put, List.setIfInBounds_toArray, List.set_cons_zero, List.set_cons_succ, i64_w, i32_w]
       rfl
      refine pure_ (i := 1) (N := some 29) (v := ?_) (a' := ?_) #[true, true, false, false, false, false, false, false, false, false] rfl rfl (any_of HT_.out (by kernel_rfl)) (fun _ _ _ h => h) (Or.inl ⟨by rfl, ?_⟩) ?_ ?_
      rotate_left
      ·intro w'
       go_simp
       with_reducible rfl
      rotate_left
      ·simp only [Act.put, List.setIfInBounds_toArray, List.set_cons_zero, List.set_cons_succ, i64_w, i32_w]
       rfl
      refine pure_ (i := 2) (N := some 30) (v := ?_) (a' := ?_) #[true, true, true, false, false, false, false, false, false, false] rfl rfl (any_of HT_.out (by kernel_rfl)) (fun _ _ _ h => h) (Or.inl ⟨by rfl, ?_⟩) ?_ ?_
      rotate_left
      ·intro w'
       go_simp
       with_reducible rfl
      rotate_left
      ·simp only [Act.put, List.setIfInBounds_toArray, List.set_cons_zero, List.set_cons_succ, i64_w, i32_w]
       rfl
      refine pure_ (i := 4) (N := some 32) (v := ?_) (a' := ?_) #[true, true, true, false, true, false, false, false, false, false] rfl rfl (any_of HT_.out (by kernel_rfl)) (fun _ _ _ h => h) (Or.inl ⟨by rfl, ?_⟩) ?_ ?_
      rotate_left
      ·intro w'
       go_simp
       with_reducible rfl
      rotate_left
      ·simp only [Act.put, List.setIfInBounds_toArray, List.set_cons_zero, List.set_cons_succ, i64_w, i32_w]
       rfl
      refine pure_ (i := 5) (N := some 33) (v := ?_) (a' := ?_) #[true, true, true, false, true, true, false, false, false, false] rfl rfl (any_of HT_.out (by kernel_rfl)) (fun _ _ _ h => h) (Or.inl ⟨by rfl, ?_⟩) ?_ ?_
      rotate_left
      ·intro w'
       go_simp
       with_reducible rfl
      rotate_left
      ·simp only [Act.put, List.setIfInBounds_toArray, List.set_cons_zero, List.set_cons_succ, i64_w, i32_w]
       rfl
      refine pure_ (i := 6) (N := some 34) (v := ?_) (a' := ?_) #[true, true, true, false, true, true, true, false, false, false] rfl rfl (any_of HT_.out (by kernel_rfl)) (fun _ _ _ h => h) (Or.inl ⟨by rfl, ?_⟩) ?_ ?_
      rotate_left
      ·intro w'
       go_simp
       with_reducible rfl
      rotate_left
      ·simp only [Act.put, List.setIfInBounds_toArray, List.set_cons_zero, List.set_cons_succ, i64_w, i32_w]
       rfl
      refine take_ (i := 3) (N := some 31) (v := ?_) (a' := ?_) #[true, true, true, true, true, true, true, false, false, false] rfl rfl (take_ofW HT_.out HW_.out (by kernel_rfl)) (fun _ _ _ h => h) (Or.inl ⟨by rfl, ?_⟩) hHeld ?_ ?_
      rotate_left
      ·rintro w' ⟨s0, s1, s2, s3, s4, s5, s6, s7, s8, s9⟩
       go_simp
       with_reducible rfl
      rotate_left
      ·simp only [Act.put, List.setIfInBounds_toArray, List.set_cons_zero, List.set_cons_succ, i64_w, i32_w]
       rfl
      refine take_ (i := 7) (N := some 35) (v := ?_) (a' := ?_) #[true, true, true, true, true, true, true, true, false, false] rfl rfl (take_ofW HT_.out HW_.out (by kernel_rfl)) (fun _ _ _ h => h) (Or.inl ⟨by rfl, ?_⟩) hHeld ?_ ?_
      rotate_left
      ·rintro w' ⟨s0, s1, s2, s3, s4, s5, s6, s7, s8, s9⟩
       go_simp
       with_reducible rfl
      rotate_left
      ·simp only [Act.put, List.setIfInBounds_toArray, List.set_cons_zero, List.set_cons_succ, i64_w, i32_w]
       rfl
      refine one_ (i := 8) (N := some 36) #[true, true, true, true, true, true, true, true, true, false] rfl rfl (one_of HT_.out (by kernel_rfl)) (by decide) (fun K hK => ?_)
      refine goes_ Try.func30 (by kernel_rfl) rfl #[.agg #[.slice (some ⟨b i.toNat, 0, none⟩) ((rd_T43 l i).f0).length ((rd_T43 l i).f0.length + 2), .int .i64 ((rd_T43 l i).f1), .int .i64 ((rd_T43 l i).f2), .int .i64 ((rd_T43 l i).f3), .int .i64 ((rd_T43 l i).f4)], .agg #[.slice A199_0 ((rd_T43 l i).f0).length c199_0, .int .i64 ((rd_T43 l i).f1), .int .i64 ((rd_T43 l i).f2), .int .i64 ((rd_T43 l i).f3), .int .i64 ((rd_T43 l i).f4)]] (by rfl) rfl rfl (by (try simp only [List.map_toArray, List.map_cons, List.map_nil]); first | done | rfl | (simp only [List.length_drop, List.length_take]; rfl)) ?_
      with_reducible refine (butlerlaw11_same.calls KS1 _ _ ((rd_T43 l i).f0) ((rd_T43 l i).f1) ((rd_T43 l i).f2) ((rd_T43 l i).f3) ((rd_T43 l i).f4) _ _ ((rd_T43 l i).f0) ((rd_T43 l i).f1) ((rd_T43 l i).f2) ((rd_T43 l i).f3) ((rd_T43 l i).f4) true _ ?side1 ?side2 ?side3 ?side4 KS.out).mono ?_
      (case side1 => repeat (first | exact (Kd.C_below HR198_0.out HB.out) | (with_reducible refine Kd.C_alloc ?_ _) | (with_reducible refine Kd.C_drewN ?_ _) | (with_reducible refine Kd.C_drew ?_)))
      (case side2 => exact HC198_0.out)
      (case side3 => repeat (first | exact (Kd.C_below HR199_0.out HB.out) | (with_reducible refine Kd.C_alloc ?_ _) | (with_reducible refine Kd.C_drewN ?_ _) | (with_reducible refine Kd.C_drew ?_)))
      (case side4 => exact HC199_0.out)
      rintro e w26 ⟨rfl, hb⟩
      refine ⟨_, rfl, ?_⟩
      have n0_ := Aside0.mk (below_step (by repeat (first | (with_reducible first | exact HB.out | apply below_alloc | apply pw_below_drewN | apply below_drew1) | exact HB.out)) hb)
      clear HB
      have HB := n0_
      clear n0_
      (try clear hb)
      (try clear hb2)
      (try clear hk)
      (try clear hi)
      refine hK.out _ _ ⟨((HB.out.cell (World.block_lt_of_cell? w _ hw198_0)).trans hw198_0), ((HB.out.cell (World.block_lt_of_cell? w _ hw198_1)).trans hw198_1), ((HB.out.cell (World.block_lt_of_cell? w _ hw198_2)).trans hw198_2), ((HB.out.cell (World.block_lt_of_cell? w _ hw198_3)).trans hw198_3), ((HB.out.cell (World.block_lt_of_cell? w _ hw198_4)).trans hw198_4), ((HB.out.cell (World.block_lt_of_cell? w _ hw199_0)).trans hw199_0), ((HB.out.cell (World.block_lt_of_cell? w _ hw199_1)).trans hw199_1), ((HB.out.cell (World.block_lt_of_cell? w _ hw199_2)).trans hw199_2), ((HB.out.cell (World.block_lt_of_cell? w _ hw199_3)).trans hw199_3), ((HB.out.cell (World.block_lt_of_cell? w _ hw199_4)).trans hw199_4)⟩ (fun hHeld => ?_)
      clear hK K
      refine norm_ (a' := ?_) ?_ ?_
      rotate_left
      ·show Act.put _ (some 36) _ = _
       simp only [Act.put, List.setIfInBounds_toArray, List.set_cons_zero, List.set_cons_succ, i64_w, i32_w]
       rfl
      refine pure_ (i := 9) (N := some 7) (v := ?_) (a' := ?_) #[true, true, true, true, true, true, true, true, true, true] rfl rfl (any_of HT_.out (by kernel_rfl)) (fun _ _ _ h => h) (Or.inl ⟨by rfl, ?_⟩) ?_ ?_
      rotate_left
      ·intro w'
       go_simp
       with_reducible rfl
      rotate_left
      ·simp only [Act.put, List.setIfInBounds_toArray, List.set_cons_zero, List.set_cons_succ, i64_w, i32_w]
       rfl
      refine done_ (done_of HT_.out (by kernel_rfl)) ?_
      have hx198_0 := pw_cell_below HB.out hw198_0
      have hx199_0 := pw_cell_below HB.out hw199_0
      have hbl := HL.out.blk i.toNat (by omega)
      rw [show (i.toNat : Int) = i by omega] at hbl
      unfold nds at hbl
      have p71 := pw_cell_below HB.out (num_cell hbl (o := (rd_T43 l i).f0.length) (by simp)).1
      have p72 := pw_cell_below HB.out (num_cell hbl (o := (rd_T43 l i).f0.length + 1) (by simp)).1
      rw [mark1] at p71
      rw [mark2] at p72
      unfold nds at hki
      clear hw198_0 hw198_1 hw198_2 hw198_3 hw198_4 hw199_0 hw199_1 hw199_2 hw199_3 hw199_4 hbl HR198_0
      go_wp2
      go_roundg (gk - 1)
      case measure => have := HG.out; omega
      case rel => exact ⟨i + 1, by go_num, by omega, by omega, ⟨by have := HG.out; omega⟩, HB⟩
    · have hlt' : decide (i < (l.length : Int)) = false := decide_eq_false hlt
      go_wp2
      go_ret
      exact ⟨rfl, HB.out⟩


/-- Nothing has changed but blocks from g to N. -/
structure SB (g N : Nat) (w w' : World) : Prop where
  low : Below g w w'
  high : ∀ k, N ≤ k → w'.heap[k]? = w.heap[k]?
  size : w'.heap.size = w.heap.size
theorem SB.set {g N : Nat} {w w1 : World} (h : SB g N w w1) {k o : Nat} (h0 : g ≤ k) (h1 : k < N) (v : Value) : SB g N w (w1.setCell ⟨k, o, none⟩ v) :=
  ⟨h.low.setCell h0 v, fun j hj => (Below.heap_setCell _ _ _ _ (show j ≠ k by omega)).trans (h.high j hj), by rw [World.size_setCell]; exact h.size⟩
/-- Where the lent recipes lie, whatever stands there. -/
structure SM (g N : Nat) (l : List S43) (b : Nat → Nat) (w : World) : Prop where
  hg : ∃ cs, w.heap[g]? = some (.cells cs 43 (0, 0)) ∧ cs.size = (l.length + 1) * 5
  row : ∀ j : Nat, j < l.length → w.cell? ⟨g, j * 5, none⟩ = some (.slice (some ⟨b j, 0, none⟩) (nds l j).length ((nds l j).length + 2))
  lo : ∀ j, j < l.length → g < b j ∧ b j < N
  blk : ∀ j : Nat, j < l.length → ∃ cs, w.heap[b j]? = some (.cells cs 3 (0, 0)) ∧ cs.size = (nds l j).length + 2
theorem SM.setAct {g N : Nat} {l : List S43} {b : Nat → Nat} {w : World} (h : SM g N l b w) (i : Nat) (v : Value) : SM g N l b (w.setCell ⟨g, i * 5 + 2, none⟩ v) := by
  obtain ⟨cs, hc, hs⟩ := h.hg
  exact ⟨⟨_, setCell_here hc, by simpa using hs⟩, fun j hj => (cell_off (by omega)).trans (h.row j hj), h.lo, fun j hj => by
    obtain ⟨cs, hc, hs⟩ := h.blk j hj
    exact ⟨cs, (Below.heap_setCell _ _ _ _ (show b j ≠ g by have := h.lo j hj; omega)).trans hc, hs⟩⟩
theorem SM.setNeed {g N : Nat} {l : List S43} {b : Nat → Nat} {w : World} (h : SM g N l b w) {i : Nat} (hi : i < l.length) (o : Nat) (v : Value) : SM g N l b (w.setCell ⟨b i, o, none⟩ v) := by
  obtain ⟨cs, hc, hs⟩ := h.hg
  have hgi := h.lo i hi
  refine ⟨⟨cs, (Below.heap_setCell _ _ _ _ (show g ≠ b i by omega)).trans hc, hs⟩, fun j hj => ?_, h.lo, fun j hj => ?_⟩
  · rw [World.cell?_setCell_far _ _ _ _ (show b i ≠ g by omega)]; exact h.row j hj
  · obtain ⟨cs, hc, hs⟩ := h.blk j hj
    by_cases e : b j = b i
    · rw [e] at hc ⊢
      exact ⟨_, setCell_here hc, by simpa using hs⟩
    · exact ⟨cs, (Below.heap_setCell _ _ _ _ (show b j ≠ b i from e)).trans hc, hs⟩
theorem SM.of {w0 w : World} {g N : Nat} {l : List S43} {b : Nat → Nat} (h : LM w0 g l l.length b w) (hN : ∀ j, j < l.length → b j < N) : SM g N l b w :=
  ⟨h.hg, fun j hj => (h.row j hj).1, fun j hj => ⟨(h.lo j hj).1, hN j hj⟩, fun j hj => ⟨_, h.blk j hj, by simp [nums]⟩⟩
theorem SM.act {g N : Nat} {l : List S43} {b : Nat → Nat} {w : World} (h : SM g N l b w) {i : Nat} (hi : i < l.length) : (∃ v, w.cell? ⟨g, i * 5 + 2, none⟩ = some v) ∧ w.frozen? ⟨g, i * 5 + 2, none⟩ = false := by
  obtain ⟨cs, hc, hs⟩ := h.hg
  have : i * 5 + 2 < cs.size := by omega
  exact ⟨⟨cs[i * 5 + 2], by simp [World.cell?, hc, this]⟩, by simp [World.frozen?, hc]⟩
theorem SM.need {g N : Nat} {l : List S43} {b : Nat → Nat} {w : World} (h : SM g N l b w) {i : Nat} (hi : i < l.length) {k : Nat} (hk : k < (nds l i).length) : (∃ v, w.cell? ⟨b i, k, none⟩ = some v) ∧ w.frozen? ⟨b i, k, none⟩ = false := by
  obtain ⟨cs, hc, hs⟩ := h.blk i hi
  have : k < cs.size := by omega
  exact ⟨⟨cs[k], by simp [World.cell?, hc, this]⟩, by simp [World.frozen?, hc]⟩

set_option maxHeartbeats 8000000 in
set_option maxRecDepth 100000 in
theorem spoil_calls {g N : Nat} {b : Nat → Nat} (l : List S43) (w : World) (hM : SM g N l b w) (hn : 56 * (l.length + 1) ≤ 281474976710656) (hk : ∀ k, 0 ≤ k → k < (l.length : Int) → 8 * ((nds l k).length + 2) ≤ 281474976710656) (hgN : g < N) :
    Calls Try.prog 16 #[.slice (some ⟨g, 0, none⟩) l.length (l.length + 1)] w fun e w' => e = .returned (.tuple #[]) ∧ SB g N w w' := by
  have HM := Aside0.mk hM
  have HK := Aside0.mk hk
  clear hM hk
  go_enter Try.func16, Try.ntmps16
  go_wp2
  go_loopg [2] (l.length + 1) (fun gk v2 wr => ∃ (i : Nat), v2 = .int .i64 i ∧ i ≤ l.length ∧ Aside0 (l.length - i < gk) ∧ Aside0 (SM g N l b wr) ∧ Aside0 (SB g N w wr))
  case atStart => exact ⟨0, rfl, by omega, ⟨by omega⟩, HM, ⟨⟨Below.refl _ _, fun _ _ => rfl, rfl⟩⟩⟩
  case round =>
    clear HM
    obtain ⟨i, rfl, i1, HG, HM, HS⟩ := hrel
    obtain ⟨go, rfl⟩ : ∃ go : Nat, go = gk := ⟨_, rfl⟩
    by_cases hlt : i < l.length
    · have hlt' : decide ((i : Int) < (l.length : Int)) = true := decide_eq_true (by omega)
      have hki := HK.out i (by omega) (by omega)
      have hbi := HM.out.lo i hlt
      go_wp2
      go_loopg [3] ((nds l i).length + 1) (fun gj v3 wr => ∃ (k : Nat), v3 = .int .i64 k ∧ k ≤ (nds l i).length ∧ Aside0 ((nds l i).length - k < gj) ∧ Aside0 (SM g N l b wr) ∧ Aside0 (SB g N w wr))
      case atStart => exact ⟨0, rfl, by omega, ⟨by omega⟩, HM, HS⟩
      case round =>
        clear HM HS
        obtain ⟨k, rfl, k1, HGj, HM, HS⟩ := hrel
        have hr := HM.out.row i hlt
        by_cases hkl : k < (nds l i).length
        · have hkl' : decide ((k : Int) < ((nds l i).length : Int)) = true := decide_eq_true (by omega)
          obtain ⟨⟨q, p⟩, f⟩ := HM.out.need hlt hkl
          go_wp2
          go_roundg (gk - 1)
          case measure => have := HGj.out; omega
          case rel => exact ⟨k + 1, by go_num, by omega, ⟨by have := HGj.out; omega⟩, ⟨HM.out.setNeed hlt _ _⟩, ⟨HS.out.set (by omega) hbi.2 _⟩⟩
        · have hkl' : decide ((k : Int) < ((nds l i).length : Int)) = false := decide_eq_false (by omega)
          obtain ⟨⟨q, p⟩, f⟩ := HM.out.act hlt
          go_wp2
          go_roundg (go - 1)
          case measure => have := HG.out; omega
          case rel => exact ⟨i + 1, by go_num, by omega, ⟨by have := HG.out; omega⟩, ⟨HM.out.setAct _ _⟩, ⟨HS.out.set (Nat.le_refl _) hgN _⟩⟩
    · have hlt' : decide ((i : Int) < (l.length : Int)) = false := decide_eq_false (by omega)
      go_wp2
      go_end0
      exact ⟨rfl, HS.out⟩


/-- A row of numbers of one's own: nil, or a block. -/
structure Row (w : World) (B : Nat) (a : Option Addr) (b n c : Nat) : Prop where
  le : n ≤ c
  max : c ≤ maxLen
  nil : a = none → c = 0
  blk : a ≠ none → a = some ⟨b, 0, none⟩ ∧ B ≤ b ∧ ∃ cs, w.heap[b]? = some (.cells cs 3 (0, 0)) ∧ cs.size = c
theorem Row.isOn {w : World} {B : Nat} {a : Option Addr} {b n c : Nat} (h : Row w B a b n c) (hc : 0 < c) : a ≠ none := fun e => by have := h.nil e; omega
theorem Row.addr {w : World} {B : Nat} {a : Option Addr} {b n c : Nat} (h : Row w B a b n c) (hc : 0 < c) : a = some ⟨b, 0, none⟩ := (h.blk (h.isOn hc)).1
theorem Row.step {w w1 : World} {B : Nat} {a : Option Addr} {b n c : Nat} (h : Row w B a b n c) (hs : a ≠ none → w1.heap[b]? = w.heap[b]?) : Row w1 B a b n c :=
  ⟨h.le, h.max, h.nil, fun hc => by obtain ⟨h0, h1, cs, h2, h3⟩ := h.blk hc; exact ⟨h0, h1, cs, (hs hc).trans h2, h3⟩⟩
theorem Row.place {w : World} {B : Nat} {a : Option Addr} {b n c : Nat} (h : Row w B a b n c) {k : Nat} (hk : k < c) : (∃ v, w.cell? ⟨b, k, none⟩ = some v) ∧ w.frozen? ⟨b, k, none⟩ = false := by
  obtain ⟨_, _, cs, hc, hs⟩ := h.blk (h.isOn (by omega))
  have : k < cs.size := by omega
  exact ⟨⟨cs[k], by simp [World.cell?, hc, this]⟩, by simp [World.frozen?, hc]⟩
theorem Row.lt {w : World} {B : Nat} {a : Option Addr} {b n c : Nat} (h : Row w B a b n c) (hc : a ≠ none) : b < w.heap.size := by
  obtain ⟨_, _, cs, hc, hs⟩ := h.blk hc
  exact blk_lt hc

/-- The rows under way of being written over. -/
structure P1 (w0 : World) (B R : Nat) (a : Nat → Option Addr) (b n c : Nat → Nat) (i k : Nat) (w : World) : Prop where
  low : Below B w0 w
  rows : ∀ j, j < 4 → w.cell? ⟨R, j, none⟩ = some (.slice (a j) (n j) (c j))
  row : ∀ j, j < 4 → Row w B (a j) (b j) (n j) (c j)
  fil : ∀ j m, j < 4 → m < n j → (j < i ∨ (j = i ∧ m < k)) → w.cell? ⟨b j, m, none⟩ = some (.int .i64 (-9 - (j : Int)))
/-- The rows lie apart. -/
structure Apt (R : Nat) (a : Nat → Option Addr) (b : Nat → Nat) : Prop where
  dist : ∀ j k, j < 4 → k < 4 → a j ≠ none → a k ≠ none → b j = b k → j = k
  off : ∀ j, j < 4 → a j ≠ none → b j ≠ R
section
variable {w0 : World} {B R : Nat} {a : Nat → Option Addr} {b n c : Nat → Nat} {i k : Nat} {w : World}
theorem P1.set (h : P1 w0 B R a b n c i k w) (hp : Apt R a b) (hi : i < 4) (hk : k < n i) : P1 w0 B R a b n c i (k + 1) (w.setCell ⟨b i, k, none⟩ (.int .i64 (-9 - (i : Int)))) := by
  have hle := (h.row i hi).le
  have hci : a i ≠ none := (h.row i hi).isOn (by omega)
  refine ⟨h.low.setCell ((h.row i hi).blk hci).2.1 _, fun j hj => ?_, fun j hj => ?_, fun j m hj hm hjm => ?_⟩
  · rw [World.cell?_setCell_far _ _ _ _ (hp.off i hi hci)]; exact h.rows j hj
  · by_cases e : j = i
    · subst e
      obtain ⟨h0, h1, cs, h2, h3⟩ := (h.row j hj).blk hci
      exact ⟨hle, (h.row j hj).max, (h.row j hj).nil, fun _ => ⟨h0, h1, _, setCell_here h2, by simpa using h3⟩⟩
    · exact (h.row j hj).step fun hc => Below.heap_setCell _ _ _ _ (fun e' => e (hp.dist j i hj hi hc hci e'))
  · by_cases e : j = i
    · subst e
      by_cases em : m = k
      · subst em
        obtain ⟨⟨v, p⟩, _⟩ := (h.row j hj).place (k := m) (by omega)
        exact World.cell?_setCell_same _ _ _ p
      · rw [cell_off (by omega)]; exact h.fil j m hj hm (by omega)
    · have hcj : a j ≠ none := (h.row j hj).isOn (by have := (h.row j hj).le; omega)
      rw [World.cell?_setCell_far _ _ _ _ (show b i ≠ b j from fun e' => e (hp.dist i j hi hj hci hcj e').symm)]
      exact h.fil j m hj hm (by omega)
theorem P1.up (h : P1 w0 B R a b n c i (n i) w) : P1 w0 B R a b n c (i + 1) 0 w :=
  ⟨h.low, h.rows, h.row, fun j m hj hm hjm => h.fil j m hj hm (by
    by_cases e : j = i
    · subst e; exact .inr ⟨rfl, hm⟩
    · exact .inl (by omega))⟩
end

/-- A value whose numbers are all x, in a block that is neither L nor one of 'bb'. -/
def Fil (w : World) (v : Value) (x : Int) (L : Option Nat) (bb : Nat → Prop) : Prop :=
  ∃ A N C, v = .slice A N C ∧ N ≤ 200 ∧ (0 < N → ∃ p o, A = some ⟨p, o, none⟩ ∧ p < w.heap.size ∧ some p ≠ L ∧ ¬ bb p ∧ ∀ k, k < N → w.cell? ⟨p, o + k, none⟩ = some (.int .i64 x))
/-- The rows that are still to be appended to. -/
def Bb (a : Nat → Option Addr) (b : Nat → Nat) (i : Nat) (p : Nat) : Prop := ∃ j, i ≤ j ∧ j < 4 ∧ a j ≠ none ∧ p = b j
/-- The long list under way. -/
structure P2 (w0 : World) (B N1 R : Nat) (a : Nat → Option Addr) (b n c : Nat → Nat) (i : Nat) (v5 : Value) (es : List Value) (w : World) : Prop where
  low : Below B w0 w
  rows : ∀ j, j < 4 → w.cell? ⟨R, j, none⟩ = some (.slice (a j) (n j) (c j))
  row : ∀ j, i ≤ j → j < 4 → Row w B (a j) (b j) (n j) (c j)
  fil : ∀ j m, i ≤ j → j < 4 → m < n j → w.cell? ⟨b j, m, none⟩ = some (.int .i64 (-9 - (j : Int)))
  rlt : R < N1
  blt : ∀ j, j < 4 → a j ≠ none → b j < N1
  old : N1 ≤ w.heap.size
  own : w.ownsRow N1 26 1 v5 (2 * i) es
  each : ∀ (m : Nat) v, es[m]? = some v → Fil w v (-9 - ((m / 2 : Nat) : Int)) v5.ownBlock (Bb a b i)
theorem own_same {w w1 : World} {base : Nat} {e : TypeId} {size n : Nat} {v : Value} {xs : List Value} (h : w.ownsRow base e size v n xs) (hs : ∀ k, v.ownBlock = some k → w1.heap[k]? = w.heap[k]?) : w1.ownsRow base e size v n xs := by
  refine ⟨h.1, h.2.imp id ?_⟩
  rintro ⟨g, cap, cur, rfl, hb, hh, rest⟩
  exact ⟨g, cap, cur, rfl, hb, (hs g rfl).trans hh, rest⟩
/-- append, told both ways. -/
theorem append_both {P : Program} (w : World) {ops : Array Oper} {rest : List Oper} {o : Oper} {a : Act} {Q : Exit → Act → World → Prop} (hgd : o.guard = none) (s x : Operand) (t : TypeId)
    (ho : o.op = .call { callee := .builtin .append, args := #[s, x], argTypes := #[t, t] })
    {W : World} {e : TypeId} {ao : Option Addr} {b off len cap : Nat} {olds : List Value} (hc : Came W 1 ao b off len cap olds)
    (i : TypeInfo) (z : Value) (bytes : Nat) (ht : P.underlying t = some (.slice e)) (hi : P.info? e = some i) (hz : i.zero = some z) (hsize : i.size = 1) (hby : i.bytes = bytes) (hzs : z.cells.size = 1)
    {v : Value} {m : Nat} {ks : List Value} {r : Nat} (hv : a.eval s = v) (h : Upon W e 1 ao b off len cap olds w v m ks r)
    (ad : Addr) (n c : Nat) (news : List Value) (hx : a.eval x = .slice (some ad) n c) (hl : news.length = n * 1) (hnews : ∀ j u, news[j]? = some u → w.cell? (ad.add j) = some u) (h1 : ∀ u ∈ news, u.oneCell' = true)
    (h63 : len + m + n ≤ maxLen) (hbytes : (len + m + n) * bytes ≤ 140737488355328) {base : Nat} {N : Nat} {xs : List Value} (hN : N = len + m) (hown : w.ownsRow base e 1 v N xs) (hbase : base ≤ w.heap.size)
    (hK : ∀ v' w', Upon W e 1 ao b off len cap olds w' v' (m + n) (ks ++ news) (Upon.next len cap 1 m r n) → w'.ownsRow base e 1 v' (N + n) (xs ++ news) → w.grownBy w' v.ownBlock → wpList P ops Q rest (a.put o.dst v') w') : wpList P ops Q (o :: rest) a w := by
  subst hN
  refine wpList_plain hgd fun K hK' => ?_
  obtain ⟨v', w', hrun, r'⟩ := run_append_upon (P := P) hc t t o.type i z bytes ht hi hz hsize hby hzs h (.slice (some ad) n c) n news (Src.ofSlice w ht ad n c news hl hnews h1) h63 hbytes
  obtain ⟨v1, w1, hr, h2, h3, _, _⟩ := run_append_own_at (P := P) w base t o.type e i z 1 bytes ht hi hz hsize hby hzs (by omega) v (len + m) xs hown ad n c news hl hnews h1 h63 hbytes hbase
  rw [hrun] at hr
  injection hr with e1 e2
  subst e1 e2
  unfold Oper.wp
  simp [execOp, ho, resolve, invoke, builtin, hv, hx, hrun, Result.andThen]
  exact hK' _ _ (hK v' w' r' h2 h3)

theorem P2.next {w0 W wr w' : World} {B N1 R : Nat} {a : Nat → Option Addr} {b n c : Nat → Nat} {i : Nat} {v5 v7 : Value} {es olds ks : List Value} {r g cap : Nat} {o : Obj}
    (h : P2 w0 B N1 R a b n c i v5 es W) (hp : Apt R a b) (hi : i < 4) (hn : n i ≤ 100) (hB1 : B ≤ N1) (hc : Came W 1 (a i) (b i) 0 (n i) (c i) olds) (hU : Upon W 3 1 (a i) (b i) 0 (n i) (c i) olds wr v7 20 ks r)
    (hol : olds = List.replicate (n i) (.int .i64 (-9 - (i : Int)))) (hks : ks = List.replicate 20 (.int .i64 (-9 - (i : Int)))) (hlow : Below B w0 wr)
    (hown : w'.ownsRow N1 26 1 (.slice (some ⟨g, 0, none⟩) (2 * i + 2) cap) (2 * i + 2) (es ++ [v7, .slice (a i) (n i) (c i)])) (hg : (wr.alloc o).grownBy w' v5.ownBlock) (hat : v5.ownBlock = some g ∨ g = wr.heap.size + 1) :
    P2 w0 B N1 R a b n c (i + 1) (.slice (some ⟨g, 0, none⟩) (2 * i + 2) cap) (es ++ [v7, .slice (a i) (n i) (c i)]) w' := by
  have hWr : W.heap.size ≤ wr.heap.size := hU.kept.size
  have hold := h.old
  have s1 : ∀ q, q < W.heap.size → (a i ≠ none → b i ≠ q) → wr.heap[q]? = W.heap[q]? := fun q hq hne => hU.kept.block hq (fun p ⟨j, hj, e⟩ => by subst e; exact hne ((h.row i (Nat.le_refl _) hi).isOn (hU.capPos hj)))
  have s2 : ∀ q, q < wr.heap.size → some q ≠ v5.ownBlock → w'.heap[q]? = wr.heap[q]? := fun q hq hne => (hg.block q (by rw [World.size_alloc]; omega) hne).trans (Below.heap_alloc _ _ _ hq)
  have hL : ∀ k, v5.ownBlock = some k → N1 ≤ k ∧ k < W.heap.size := h.own.lt
  have hnoL : ∀ q, q < N1 → some q ≠ v5.ownBlock := fun q hq e => by have := (hL q e.symm).1; omega
  have hgsz : wr.heap.size + 1 ≤ w'.heap.size := by have := hg.size; rw [World.size_alloc] at this; exact this
  have big : ∀ q, q < wr.heap.size → some q ≠ v5.ownBlock → some q ≠ some g := fun q hq hne e => by
    rcases hat with hat | hat
    · exact hne (e.trans hat.symm)
    · injection e with e; omega
  have keepb : ∀ j, i + 1 ≤ j → j < 4 → a j ≠ none → w'.heap[b j]? = W.heap[b j]? := fun j hj hj4 hcj => by
    have hb := h.blt j hj4 hcj
    exact (s2 _ (by omega) (hnoL _ hb)).trans (s1 _ (by omega) (fun hci e => by have := hp.dist i j hi hj4 hci hcj e; omega))
  refine ⟨(hlow.alloc (Nat.le_trans hB1 (by omega)) o).grown hg (by rw [World.size_alloc]; omega) (fun k hk => by have := (hL k hk).1; omega), fun j hj => ?_, fun j hj hj4 => (h.row j (by omega) hj4).step (fun hcj => keepb j hj hj4 hcj), fun j m hj hj4 hm => ?_, h.rlt, h.blt, by omega, hown, fun m v hv => ?_⟩
  · exact (World.cell?_of_block (a := ⟨R, j, none⟩) ((s2 R (by have := h.rlt; omega) (hnoL R h.rlt)).trans (s1 R (by have := h.rlt; omega) (fun hci => hp.off i hi hci)))).trans (h.rows j hj)
  · have hcj : a j ≠ none := (h.row j (by omega) hj4).isOn (by have := (h.row j (by omega) hj4).le; omega)
    exact (World.cell?_of_block (a := ⟨b j, m, none⟩) (keepb j hj hj4 hcj)).trans (h.fil j m (by omega) hj4 hm)
  · have hel : es.length = 2 * i := by have := h.own.1; omega
    rcases Nat.lt_or_ge m es.length with hm | hm
    · rw [List.getElem?_append_left hm] at hv
      obtain ⟨A, N, C, rfl, hN, hF⟩ := h.each m v hv
      refine ⟨A, N, C, rfl, hN, fun hp0 => ?_⟩
      obtain ⟨p, o', rfl, hpl, hpL, hpb, hcell⟩ := hF hp0
      refine ⟨p, o', rfl, by omega, big p (by omega) hpL, fun ⟨j, hj, hj4, hcj, e⟩ => hpb ⟨j, by omega, hj4, hcj, e⟩, fun k hk => ?_⟩
      exact (World.cell?_of_block (a := ⟨p, o' + k, none⟩) ((s2 p (by omega) hpL).trans (s1 p hpl (fun hci e => hpb ⟨i, Nat.le_refl _, hi, hci, e.symm⟩)))).trans (hcell k hk)
    · rw [List.getElem?_append_right hm] at hv
      have hm2 : m = 2 * i ∨ m = 2 * i + 1 := by have := (List.getElem?_eq_some_iff.1 hv).1; simp at this; omega
      rcases hm2 with rfl | rfl
      · -- what was appended to
        rw [hel, Nat.sub_self] at hv
        simp at hv
        subst hv
        rw [show 2 * i / 2 = i by omega]
        have hall : ∀ k, k < n i + 20 → (olds ++ ks)[k]? = some (.int .i64 (-9 - (i : Int))) := fun k hk => by
          rw [hol, hks, List.replicate_append_replicate, List.getElem?_replicate, if_pos hk]
        rcases hU.val with ⟨hle, rfl, hr⟩ | ⟨_, g', c', rfl, ho⟩
        · have hci0 : 0 < c i := by omega
          have hci : a i ≠ none := (h.row i (Nat.le_refl _) hi).isOn hci0
          refine ⟨_, _, _, rfl, by omega, fun _ => ⟨b i, 0, hc.addr hci0, ?_, big _ ?_ (hnoL _ (h.blt i hi hci)), fun ⟨j, hj, hj4, hcj, e⟩ => ?_, fun k hk => ?_⟩⟩
          · have := h.blt i hi hci; omega
          · have := h.blt i hi hci; omega
          · have := hp.dist i j hi hj4 hci hcj e; omega
          · have hb := h.blt i hi hci
            have h1 := hU.inArray hc hci0 hr k (by omega)
            rw [Nat.zero_add] at h1 ⊢
            exact (World.cell?_of_block (a := ⟨b i, k, none⟩) (s2 (b i) (by omega) (hnoL _ hb))).trans (h1.trans (hall k hk))
        · have hgl : g' < wr.heap.size := by
            have h1 := ho.holds 0 (by omega)
            rw [hall 0 (by omega)] at h1
            exact World.block_lt_of_cell? _ _ h1
          have hgn := ho.new
          have hgL : some g' ≠ v5.ownBlock := fun e => by have := (hL g' e.symm).2; omega
          refine ⟨_, _, _, rfl, by omega, fun _ => ⟨g', 0, rfl, by omega, big _ hgl hgL, fun ⟨j, hj, hj4, hcj, e⟩ => ?_, fun k hk => ?_⟩⟩
          · have := h.blt j hj4 hcj; omega
          · have h1 := ho.holds k (by omega)
            rw [Nat.zero_add]
            exact (World.cell?_of_block (a := ⟨g', k, none⟩) (s2 g' hgl hgL)).trans (h1.trans (hall k hk))
      · -- the row itself
        rw [hel, show 2 * i + 1 - 2 * i = 1 by omega] at hv
        simp at hv
        subst hv
        rw [show (2 * i + 1) / 2 = i by omega]
        refine ⟨_, _, _, rfl, by omega, fun hn0 => ?_⟩
        have hci0 : 0 < c i := by have := (h.row i (Nat.le_refl _) hi).le; omega
        have hci : a i ≠ none := (h.row i (Nat.le_refl _) hi).isOn hci0
        have hb := h.blt i hi hci
        refine ⟨b i, 0, hc.addr hci0, by omega, big _ (by omega) (hnoL _ hb), fun ⟨j, hj, hj4, hcj, e⟩ => ?_, fun k hk => ?_⟩
        · have := hp.dist i j hi hj4 hci hcj e; omega
        · rw [Nat.zero_add]
          refine (World.cell?_of_block (a := ⟨b i, k, none⟩) (s2 (b i) (by omega) (hnoL _ hb))).trans ?_
          rw [hU.old (by omega) (fun j hj ⟨_, e⟩ => by omega)]
          exact h.fil i k (Nat.le_refl _) hi hk

theorem P2.came {w0 W : World} {B N1 R : Nat} {a : Nat → Option Addr} {b n c : Nat → Nat} {i : Nat} {v5 : Value} {es : List Value} (h : P2 w0 B N1 R a b n c i v5 es W) (hi : i < 4) :
    Came W 1 (a i) (b i) 0 (n i) (c i) (List.replicate (n i) (.int .i64 (-9 - (i : Int)))) := by
  have hr := h.row i (Nat.le_refl _) hi
  refine ⟨hr.le, hr.addr, fun hc => hr.lt (hr.isOn hc), by simp, fun j u hu => ?_, fun j hj => ?_⟩
  · have hj : j < n i := by have := (List.getElem?_eq_some_iff.1 hu).1; simpa using this
    rw [List.getElem?_replicate, if_pos hj] at hu
    rw [Nat.zero_add, h.fil i j (Nat.le_refl _) hi hj, hu]
  · obtain ⟨⟨v, p⟩, f⟩ := hr.place (k := 0 + n i * 1 + j) (by omega)
    exact ⟨by rw [p]; rfl, f⟩
theorem P2.owns {w0 W : World} {B N1 R : Nat} {a : Nat → Option Addr} {b n c : Nat → Nat} {i : Nat} {v5 : Value} {es : List Value} (h : P2 w0 B N1 R a b n c i v5 es W) (hi : i < 4) :
    W.ownsRow B 3 1 (.slice (a i) (n i) (c i)) (n i) (List.replicate (n i) (.int .i64 (-9 - (i : Int)))) := by
  have hr := h.row i (Nat.le_refl _) hi
  refine ⟨by simp, ?_⟩
  by_cases hc : a i = none
  · have hl := hr.le
    have hc0 := hr.nil hc
    exact .inl ⟨by rw [hc, hc0, show n i = 0 by omega], by omega⟩
  · obtain ⟨ha, hB, cs, hcs, hsz⟩ := hr.blk hc
    have hl := hr.le
    refine .inr ⟨b i, c i, cs, by rw [ha], hB, hcs, hr.le, hr.max, by rw [hsz, Nat.mul_one], ?_⟩
    apply List.ext_getElem?
    intro j
    rw [Nat.mul_one, List.getElem?_take, List.getElem?_replicate]
    by_cases hj : j < n i
    · rw [if_pos hj, if_pos hj]
      have := h.fil i j (Nat.le_refl _) hi hj
      rw [blk_cell hcs] at this
      simpa using this
    · rw [if_neg hj, if_neg hj]

theorem inf3 : ∃ i0, Try.prog.info? 3 = some i0 ∧ i0.zero = some (.int .i64 0) ∧ i0.size = 1 ∧ i0.bytes = 8 := by
  obtain ⟨i0, hi, h⟩ := Option.map_eq_some_iff.1 info3
  simp only [Prod.mk.injEq] at h
  exact ⟨i0, hi, h⟩
theorem inf26 : ∃ i0, Try.prog.info? 26 = some i0 ∧ i0.zero = some (.slice none 0 0) ∧ i0.size = 1 ∧ i0.bytes = 24 := by
  have h0 : (Try.prog.info? 26).map (fun i => (i.zero, i.size, i.bytes)) = some (some (.slice none 0 0), 1, 24) := by kernel_rfl
  obtain ⟨i0, hi, h⟩ := Option.map_eq_some_iff.1 h0
  simp only [Prod.mk.injEq] at h
  exact ⟨i0, hi, h⟩
theorem lit_cells (w : World) (vs : List Value) (t : TypeId) : ∀ (j : Nat) u, vs[j]? = some u → (w.alloc (.cells vs.toArray t)).cell? ((⟨w.heap.size, 0, none⟩ : Addr).add j) = some u := by
  intro j u hu
  rw [add_plain, blk_cell (blk_new w (.cells vs.toArray t))]
  simpa using hu

set_option maxHeartbeats 8000000 in
set_option maxRecDepth 100000 in
theorem owned_calls {B R : Nat} {a : Nat → Option Addr} {b n c : Nat → Nat} (w : World) (hrow : ∀ j, j < 4 → w.cell? ⟨R, j, none⟩ = some (.slice (a j) (n j) (c j))) (hRow : ∀ j, j < 4 → Row w B (a j) (b j) (n j) (c j)) (hp : Apt R a b) (hn : ∀ j, j < 4 → n j ≤ 100) (hB : B ≤ w.heap.size) :
    Calls Try.prog 22 #[.slice (some ⟨R, 0, none⟩) 4 4] w fun e w' => e = .returned (.bool true) ∧ Below B w w' := by
  have HN := Aside0.mk hn
  have HP := Aside0.mk hp
  have H1 : Aside0 (P1 w B R a b n c 0 0 w) := ⟨⟨Below.refl _ _, hrow, hRow, fun j m _ _ h => by omega⟩⟩
  clear hrow hRow hn hp
  go_enter Try.func22, Try.ntmps22
  go_wp2
  go_loopg [3] 5 (fun gk v3 wr => ∃ (i : Nat), v3 = .int .i64 i ∧ i ≤ 4 ∧ 4 - i < gk ∧ Aside0 (P1 w B R a b n c i 0 wr))
  case atStart => exact ⟨0, rfl, by omega, by omega, H1⟩
  case round =>
    clear H1
    obtain ⟨i, rfl, i1, hg, H1⟩ := hrel
    obtain ⟨go, rfl⟩ : ∃ go : Nat, go = gk := ⟨_, rfl⟩
    by_cases hlt : i < 4
    · have hlt' : decide ((i : Int) < 4) = true := decide_eq_true (by omega)
      have hni := HN.out i hlt
      go_wp2
      go_loopg [4] (n i + 1) (fun gj v4 wr => ∃ (k : Nat), v4 = .int .i64 k ∧ k ≤ n i ∧ n i - k < gj ∧ Aside0 (P1 w B R a b n c i k wr))
      case atStart => exact ⟨0, rfl, by omega, by omega, H1⟩
      case round =>
        clear H1
        obtain ⟨k, rfl, k1, hgj, H1⟩ := hrel
        have hr := H1.out.rows i hlt
        by_cases hkl : k < n i
        · have hkl' : decide ((k : Int) < (n i : Int)) = true := decide_eq_true (by omega)
          have hle := (H1.out.row i hlt).le
          have ha := (H1.out.row i hlt).addr (by omega)
          rw [ha] at hr
          obtain ⟨⟨q, p⟩, f⟩ := (H1.out.row i hlt).place (k := k) (by omega)
          clear ha
          go_wp2
          go_roundg (gk - 1)
          case measure => omega
          case rel => exact ⟨k + 1, by go_num, by omega, by omega, ⟨H1.out.set HP.out hlt hkl⟩⟩
        · have hkl' : decide ((k : Int) < (n i : Int)) = false := decide_eq_false (by omega)
          obtain rfl : k = n i := by omega
          go_wp2
          go_roundg (go - 1)
          case measure => omega
          case rel => exact ⟨i + 1, by go_num, by omega, by omega, ⟨H1.out.up⟩⟩
    · have hlt' : decide ((i : Int) < 4) = false := decide_eq_false (by omega)
      obtain rfl : i = 4 := by omega
      go_wp2
      have HB := Aside0.mk hB
      have H2 : Aside0 (P2 w B wr.heap.size R a b n c 0 (.slice none 0 0) [] wr) := by
        have h := H1.out
        refine ⟨⟨h.low, h.rows, fun j _ hj => h.row j hj, fun j m _ hj hm => h.fil j m hj hm (.inl hj), ?_, fun j hj hc => (h.row j hj).lt hc, Nat.le_refl _, World.ownsRow_nil _ _ _ _, fun m v hv => by simp at hv⟩⟩
        exact World.block_lt_of_cell? _ _ (h.rows 0 (by omega))
      obtain ⟨N1, hN1⟩ : ∃ N1, N1 = wr.heap.size := ⟨_, rfl⟩
      rw [← hN1] at H2
      have HBN : Aside0 (B ≤ N1) := ⟨by rw [hN1]; exact Nat.le_trans hB H1.out.low.size⟩
      clear H1 hN1 hB
      go_loopg [5, 6] 5 (fun gk v5 v6 wr => ∃ (i : Nat) (es : List Value), v6 = .int .i64 i ∧ i ≤ 4 ∧ 4 - i < gk ∧ Aside0 (P2 w B N1 R a b n c i v5 es wr))
      case atStart => exact ⟨0, [], rfl, by omega, by omega, H2⟩
      case round =>
        clear H2 hlt hlt' hg
        obtain ⟨i, es, rfl, i1, hg, H2⟩ := hrel
        obtain ⟨go, rfl⟩ : ∃ go : Nat, go = gk := ⟨_, rfl⟩
        by_cases hlt : i < 4
        · have hlt' : decide ((i : Int) < 4) = true := decide_eq_true (by omega)
          have hni := HN.out i hlt
          have hr := H2.out.rows i hlt
          obtain ⟨W, hW⟩ : ∃ W, W = wr := ⟨_, rfl⟩
          rw [← hW] at H2
          have HW := Aside0.mk hW
          clear hW
          go_wp2
          go_loopg [7, 8] 21 (fun gj v7 v8 wr => ∃ (k r : Nat), v8 = .int .i64 k ∧ k ≤ 20 ∧ 20 - k < gj ∧ Aside0 (Upon W 3 1 (a i) (b i) 0 (n i) (c i) (List.replicate (n i) (.int .i64 (-9 - (i : Int)))) wr v7 k (List.replicate k (.int .i64 (-9 - (i : Int)))) r) ∧
            Aside0 (wr.ownsRow B 3 1 v7 (n i + k) (List.replicate (n i + k) (.int .i64 (-9 - (i : Int))))) ∧ Aside0 (Below B w wr))
          case atStart =>
            rw [← HW.out]
            exact ⟨0, 0, rfl, by omega, by omega, ⟨Upon.start (H2.out.came hlt)⟩, ⟨by rw [Nat.add_zero]; exact H2.out.owns hlt⟩, ⟨H2.out.low⟩⟩
          case round =>
            obtain ⟨k, r, rfl, k1, hgj, HU, HO, HL⟩ := hrel
            by_cases hkl : k < 20
            · have hkl' : decide ((k : Int) < 20) = true := decide_eq_true (by omega)
              obtain ⟨i0, hi0, hz0, hs0, hb0⟩ := inf3
              have HI := Aside0.mk hi0
              clear hi0
              have hsz := HL.out.size
              have hBw := HB.out
              have HH := H2.out.came hlt
              have HC := Aside0.mk HH
              clear HH
              go_wp2_with (first
                | ((with_reducible refine gate_builtin (b := .append) (xs := #[.tmp 48, .tmp 51]) rfl ?_); refine append_both _ rfl (.tmp 48) (.tmp 51) 26 rfl HC.out i0 (.int .i64 0) 8 Try.underlying26 HI.out hz0 hs0 hb0 rfl rfl (HU.out.alloc HC.out _) ⟨wr.heap.size, 0, none⟩ 1 1 [.int .i64 (-9 - (i : Int))] rfl rfl (lit_cells wr [.int .i64 (-9 - (i : Int))] 3) (by intro u hu; simp at hu; subst hu; rfl) (by unfold maxLen; omega) (by omega) rfl (HO.out.alloc _) (by rw [World.size_alloc]; omega) ?_; intro v' w' hU' hO' hG'))
              have HU' := Aside0.mk hU'
              have HO' := Aside0.mk hO'
              have HG' := Aside0.mk hG'
              clear hU' hO' hG'
              go_roundg (gk - 1)
              case measure => omega
              case rel =>
                refine ⟨k + 1, _, by go_num, by omega, by omega, ⟨by rw [List.replicate_succ']; exact HU'.out⟩, ⟨?_⟩, ⟨(HL.out.alloc (by omega) _).grown HG'.out (by rw [World.size_alloc]; omega) (fun q hq => (HO.out.lt q hq).1)⟩⟩
                have := HO'.out
                rwa [← List.replicate_succ' (n := n i + k)] at this
            · have hkl' : decide ((k : Int) < 20) = false := decide_eq_false (by omega)
              obtain rfl : k = 20 := by omega
              obtain ⟨a7, c7, e7⟩ := HU.out.shape
              subst e7
              obtain ⟨i0, hi0, hz0, hs0, hb0⟩ := inf26
              have HI := Aside0.mk hi0
              clear hi0
              have hsz := HU.out.kept.size
              have hNW := H2.out.old
              have hBN := HBN.out
              have hRN := H2.out.rlt
              have hr2 : wr.cell? ⟨R, i, none⟩ = some (.slice (a i) (n i) (c i)) := (HU.out.old (by omega) (fun j hj ⟨e, _⟩ => HP.out.off i hlt ((H2.out.row i (Nat.le_refl _) hlt).isOn (HU.out.capPos hj)) e.symm)).trans (H2.out.rows i hlt)
              have HOW : Aside0 (wr.ownsRow N1 26 1 u5 (2 * i) es) := ⟨own_same H2.out.own (fun q hq => HU.out.kept.block (H2.out.own.lt q hq).2 (fun p ⟨j, hj, e⟩ => by
                subst e
                have h1 := (H2.out.own.lt q hq).1
                have h2 := H2.out.blt i hlt ((H2.out.row i (Nat.le_refl _) hlt).isOn (HU.out.capPos hj))
                show b i ≠ q
                omega))⟩
              clear hr
              go_wp2_with (first
                | ((with_reducible refine gate_builtin (b := .append) (xs := #[.tmp 53, .tmp 59]) rfl ?_); refine wpList_append_lies _ rfl (.tmp 53) (.tmp 59) 37 rfl N1 26 i0 (.slice none 0 0) 1 24 Try.underlying37 HI.out hz0 hs0 hb0 rfl (by omega) u5 (2 * i) es rfl (HOW.out.alloc _) ⟨wr.heap.size, 0, none⟩ 2 2 [.slice a7 (n i + 20) c7, .slice (a i) (n i) (c i)] rfl rfl (lit_cells wr [.slice a7 (n i + 20) c7, .slice (a i) (n i) (c i)] 26) (by intro u hu; simp at hu; rcases hu with rfl | rfl <;> rfl) (by omega) (by unfold maxLen; omega) (by omega) (by rw [World.size_alloc]; omega) (wr.heap.size + 1) (World.size_alloc _ _) ?_; intro g7 cap7 w' hO' hG' hat' hlt7))
              have HN2 := H2.out.next HP.out hlt hni hBN (H2.out.came hlt) HU.out rfl rfl HL.out hO' hG' hat'
              have HN2 := Aside0.mk HN2
              clear hO' hG' hat'
              go_roundg (go - 1)
              case measure => omega
              case rel => exact ⟨i + 1, _, by go_num, by omega, by omega, HN2⟩
        · have hlt' : decide ((i : Int) < 4) = false := decide_eq_false (by omega)
          obtain rfl : i = 4 := by omega
          obtain ⟨g5, cap5, e5, _, _⟩ := H2.out.own.form (by omega)
          subst e5
          have HES : Aside0 (es.length = 8) := ⟨by have := H2.out.own.1; omega⟩
          go_wp2
          go_loopg [9] 9 (fun gk v9 wx => ∃ (m : Nat), v9 = .int .i64 m ∧ m ≤ 8 ∧ 8 - m < gk ∧ Aside0 (wx = wr))
          case atStart => exact ⟨0, rfl, by omega, by omega, ⟨rfl⟩⟩
          case round =>
            obtain ⟨m, rfl, m1, hgm, HX⟩ := hrel
            obtain rfl := HX.out
            obtain ⟨gm, rfl⟩ : ∃ gm : Nat, gm = gk := ⟨_, rfl⟩
            by_cases hml : m < 8
            · have hml' : decide ((m : Int) < 8) = true := decide_eq_true (by omega)
              have hes := HES.out
              have hv := List.getElem?_eq_getElem (show m < es.length by omega)
              have hcell := H2.out.own.cellAt m (by omega)
              obtain ⟨A, N, C, ev, hN, hF⟩ := H2.out.each m _ hv
              rw [hv, ev] at hcell
              have HF := Aside0.mk hF
              clear hF hv ev hes
              go_wp2
              go_loopg [10] (N + 1) (fun gj v10 wy => ∃ (k : Nat), v10 = .int .i64 k ∧ k ≤ N ∧ N - k < gj ∧ Aside0 (wy = wr))
              case atStart => exact ⟨0, rfl, by omega, by omega, ⟨rfl⟩⟩
              case round =>
                obtain ⟨k, rfl, k1, hgk, HY⟩ := hrel
                obtain rfl := HY.out
                by_cases hkl : k < N
                · have hkl' : decide ((k : Int) < (N : Int)) = true := decide_eq_true (by omega)
                  obtain ⟨p, o, eA, _, _, _, hc⟩ := HF.out (by omega)
                  have hck := hc k hkl
                  clear hc
                  subst eA
                  rw [Int.natCast_ediv] at hck
                  go_wp2
                  go_roundg (gk - 1)
                  case measure => omega
                  case rel => exact ⟨k + 1, by go_num, by omega, by omega, ⟨rfl⟩⟩
                · have hkl' : decide ((k : Int) < (N : Int)) = false := decide_eq_false (by omega)
                  go_wp2
                  go_roundg (gm - 1)
                  case measure => omega
                  case rel => exact ⟨m + 1, by go_num, by omega, by omega, ⟨rfl⟩⟩
            · have hml' : decide ((m : Int) < 8) = false := decide_eq_false (by omega)
              go_wp2
              go_ret
              exact ⟨rfl, H2.out.low⟩
end Go.Proofs.Ytgahkloigbhgdaa.PR
