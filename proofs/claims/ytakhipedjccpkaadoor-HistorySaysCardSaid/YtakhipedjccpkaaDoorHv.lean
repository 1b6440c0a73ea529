/- butlerlaw03.awake: it is true. -/
import Derived.Test.YtakhipedjccpkaaDoorHl
import Derived.Test.YtakhipedjccpkaaDoorHo
import Derived.Test.YtakhipedjccpkaaDoorPHx2
import Derived.Deep.RegionWith
namespace Go.Proofs.YtakhipedjccpkaaDoor.PH
open Go.RowKit Go.Proofs.YtakhipedjccpkaaDoorW.PrintWords Go.Proofs.YtakhipedjccpkaaDoorW.PrintLast Go.Proofs.YtakhipedjccpkaaDoorW.PrintMore
set_option linter.unusedVariables false
set_option linter.unusedSimpArgs false

def exA : List S33 := [⟨0, 1, 5, 0, 0, 3, ⟨0, 0⟩⟩, ⟨1, 1, 2, 0, 1, 2, ⟨0, 5⟩⟩]
def exB : List S33 := [⟨0, 1, 5, 0, 0, 1, ⟨0, 2⟩⟩, ⟨1, 1, 2, 0, 2, 3, ⟨0, 0⟩⟩]
theorem gs_exA : Gs 1 exA 0 [0] := by
  refine .step 0 (W 0 0 [5]) (by decide) (by decide) ?_ ?_ (.inr rfl) ?_
  · intro y hy
    rw [show miss exA 0 = exA from rfl] at hy
    simp only [exA, List.mem_cons, List.not_mem_nil, or_false] at hy
    rcases hy with rfl | rfl <;> rfl
  · exact List.mem_singleton.2 (by simp [W, rd_T33, exA, rd, wrap64])
  · refine .step 1 (W 0 5 [7]) (by decide) (by decide) ?_ ?_ (.inr rfl) ?_
    · intro y hy
      rw [show miss exA (0 ||| 1 <<< 0) = [⟨1, 1, 2, 0, 1, 2, ⟨0, 5⟩⟩] from rfl] at hy
      simp only [List.mem_cons, List.not_mem_nil, or_false] at hy
      subst hy; rfl
    · exact List.mem_singleton.2 (by simp [W, rd_T33, exA, rd, wrap64])
    · exact .done (by intro e he; rw [show miss exA (0 ||| 1 <<< 0 ||| 1 <<< 1) = [] from rfl] at he; cases he)
theorem gs_exB : ¬ Gs 1 exB 0 [0] := by
  intro h
  cases h with
  | done h => exact absurd (h ⟨0, 1, 5, 0, 0, 1, ⟨0, 2⟩⟩ (by rw [show miss exB 0 = exB from rfl]; simp [exB])) (by decide)
  | step i x a b c d e f =>
    have hi : i = 0 ∨ i = 1 := by simp [exB] at a; omega
    rcases hi with rfl | rfl
    · have d' : x ∈ wAdder [0] ⟨0, 1, 5, 0, 0, 1, ⟨0, 2⟩⟩ := d
      simp [wAdder] at d'
      subst d'
      rcases e with e | e
      · exact absurd e (by decide)
      · have := congrArg S31.f1 e
        exact absurd this (by decide)
    · have := c ⟨0, 1, 5, 0, 0, 1, ⟨0, 2⟩⟩ (by rw [show miss exB 0 = exB from rfl]; simp [exB])
      exact absurd this (by decide)
theorem right_two {l : List S33} (hl : l.length = 2) (t0 : timesAt l 0) (t1 : timesAt l 1) (f : fitsAt l 1 0) : rightP l := by
  intro i hi
  have : i = 0 ∨ i = 1 := by omega
  rcases this with rfl | rfl
  · exact ⟨t0, by intro j hj; omega⟩
  · exact ⟨t1, by intro j hj; have : j = 0 := by omega
                  subst this; exact f⟩
instance (l : List S33) (i : Nat) : Decidable (timesAt l i) := by unfold timesAt; infer_instance
theorem lin_exA : history_Linear.f 1 0 exA = some (true, 0) := by
  have hr : rightP exA := right_two rfl (by decide) (by decide) (by decide)
  unfold history_Linear.f
  rw [if_pos ⟨⟨by decide, by decide⟩, by intro e he; simp [exA] at he; rcases he with rfl | rfl <;> exact ⟨⟨by decide, by decide⟩, ⟨by decide, by decide⟩⟩⟩]
  unfold linOf
  rw [if_neg (not_not_intro (show Begun 1 0 by decide)), if_neg (by decide), if_neg (not_not_intro hr)]
  rw [@decide_eq_true _ (Classical.propDecidable _) (show Gs 1 exA 0 (state0 1 0) from gs_exA)]
theorem lin_exB : history_Linear.f 1 0 exB = some (false, 0) := by
  have hr : rightP exB := right_two rfl (by decide) (by decide) (by decide)
  unfold history_Linear.f
  rw [if_pos ⟨⟨by decide, by decide⟩, by intro e he; simp [exB] at he; rcases he with rfl | rfl <;> exact ⟨⟨by decide, by decide⟩, ⟨by decide, by decide⟩⟩⟩]
  unfold linOf
  rw [if_neg (not_not_intro (show Begun 1 0 by decide)), if_neg (by decide), if_neg (not_not_intro hr)]
  rw [@decide_eq_false _ (Classical.propDecidable _) (show ¬ Gs 1 exB 0 (state0 1 0) from gs_exB)]
theorem lin_exC : history_Linear.f 6 0 [] = some (false, 1) := by
  unfold history_Linear.f
  rw [if_pos ⟨⟨by decide, by decide⟩, by intro e he; cases he⟩]
  unfold linOf
  rw [if_pos (show ¬ Begun 6 0 by decide)]
theorem C33_blk {w : World} {b : Nat} {l : List S33} {cs : Array Value} (h : w.heap[b]? = some (.cells cs 33 (0, 0))) (hc : cs.toList = flat33 l) (hm : l.length ≤ 9223372036854775807) : Kd.C k33 w (some ⟨b, 0, none⟩) l.length l := by
  refine ⟨rfl, hm, fun _ => ⟨_, rfl, fun j p hp => ⟨cs33 p, rfl, k33_mk w p, fun i u hu => ?_⟩⟩⟩
  have hr := (flat33_reps w 0 (fun _ => True) l).2 j p hp
  have := k33_openM hr
  have hi : i < 8 := (List.getElem?_eq_some_iff.1 hu).1
  have h9 : ((flat33 l).drop (j * 8))[i]? = some u := by
    rw [← hu, show cs33 p = ((flat33 l).drop (j * 8)).take 8 from this.symm, List.getElem?_take_of_lt hi]
  rw [add_plain, blk_cell h]
  show cs[j * 8 + i]? = some u
  rw [← Array.getElem?_toList, hc]
  simpa using h9
theorem oargs_new (we : World) : OArgs (we.heap.size + 1) we.heap.size (we.heap.size + 1 + 1 + 1) (we.heap.size + 1 + 1) (we.heap.size + 1 + 1 + 1 + 1)
    (((((we.alloc (.cells #[.int .i64 2, .int .i64 7, .int .i64 0, .int .i64 0] 59)).alloc (.cells #[.slice (some ⟨we.heap.size, 0, none⟩) 1 1] 60)).alloc (.cells #[.int .i64 0, .int .i64 9] 31)).alloc (.cells #[.slice (some ⟨we.heap.size + 1 + 1, 0, none⟩) 1 1] 61)).alloc (.cells #[.int .i64 0, .int .i64 0, .int .i64 9, .int .i64 0, .int .i64 0, .int .i64 1, .int .i64 0, .int .i64 1, .int .i64 0, .int .i64 0, .int .i64 0, .int .i64 0, .int .i64 10, .int .i64 0, .int .i64 0] 45)) := by
  generalize ho1 : Obj.cells #[.int .i64 2, .int .i64 7, .int .i64 0, .int .i64 0] 59 = o1
  generalize ho2 : Obj.cells #[.slice (some ⟨we.heap.size, 0, none⟩) 1 1] 60 = o2
  generalize ho3 : Obj.cells #[.int .i64 0, .int .i64 9] 31 = o3
  generalize ho4 : Obj.cells #[.slice (some ⟨we.heap.size + 1 + 1, 0, none⟩) 1 1] 61 = o4
  generalize ho5 : Obj.cells #[.int .i64 0, .int .i64 0, .int .i64 9, .int .i64 0, .int .i64 0, .int .i64 1, .int .i64 0, .int .i64 1, .int .i64 0, .int .i64 0, .int .i64 0, .int .i64 0, .int .i64 10, .int .i64 0, .int .i64 0] 45 = o5
  have n2 := blk_new (we.alloc o1) o2
  have n3 := blk_new ((we.alloc o1).alloc o2) o3
  have n4 := blk_new (((we.alloc o1).alloc o2).alloc o3) o4
  have n5 := blk_new ((((we.alloc o1).alloc o2).alloc o3).alloc o4) o5
  simp only [World.size_alloc] at n2 n3 n4 n5
  refine ⟨?_, ?_, ?_, ?_, ?_⟩
  · refine (Below.heap_alloc _ _ _ (by simp)).trans ((Below.heap_alloc _ _ _ (by simp)).trans ((Below.heap_alloc _ _ _ (by simp)).trans (n2.trans ?_))); rw [← ho2]
  · refine (Below.heap_alloc _ _ _ (by simp; omega)).trans ((Below.heap_alloc _ _ _ (by simp; omega)).trans ((Below.heap_alloc _ _ _ (by simp; omega)).trans ((Below.heap_alloc _ _ _ (by simp)).trans ((blk_new we o1).trans ?_)))); rw [← ho1]
  · refine (Below.heap_alloc _ _ _ (by simp)).trans (n4.trans ?_); rw [← ho4]
  · refine (Below.heap_alloc _ _ _ (by simp)).trans ((Below.heap_alloc _ _ _ (by simp)).trans (n3.trans ?_)); rw [← ho3]
  · refine n5.trans ?_; rw [← ho5]
def butlerlaw03_awake.T5 : Bool × List (List Nat × List Nat) := (true, [([], []), ([0], [0]), ([1], [1]), ([2, 1], [1, 2]), ([1, 3], [1, 3]), ([4, 1], [4]), ([5], [5]), ([6, 5], [5, 6]), ([5, 7], [5, 7]), ([8, 5], [8]), ([9], [9]), ([10, 9], [9, 10]), ([9, 11], [9, 11]), ([12, 9], [12]), ([13], [13]), ([14, 13], [13, 14]), ([13, 15], [13, 15]), ([16, 13], [16]), ([17], [17]), ([18, 17], [17, 18]), ([17, 19], [17, 19]), ([20, 17], [20]), ([21], [21]), ([22, 21], [21, 22]), ([23, 21], [21, 23]), ([21, 24], [21, 24]), ([25, 21], [25]), ([26], [26]), ([27, 26], [26, 27]), ([28, 26], [26, 28]), ([26, 26], [26]), ([29, 30, 26], [26, 29, 30]), ([26, 31], [26, 31]), ([32, 30, 0, 1, 2, 3, 4, 5, 6, 7, 8, 9, 10, 11, 12, 13, 14, 15, 16, 17, 18, 19, 20, 21, 22, 23, 24, 25, 26, 27, 28, 29, 30, 31, 32], [32])])
def butlerlaw03_awake.B5 : List Nat := [0, 1, 3, 7, 15, 31, 63, 127, 255, 511, 1023, 2047, 4095, 8191, 16383, 32767, 65535, 131071, 262143, 524287, 1048575, 2097151, 4194303, 8388607, 16777215, 33554431, 67108863, 134217727, 268435455, 536870911, 134217727, 2147483647, 4294967295, 8589934591]
theorem butlerlaw03_awake.tab5 : rtab .any (opsOf Tryd.f7 5) = butlerlaw03_awake.T5 := by kernel_rfl
theorem butlerlaw03_awake.bits5 : waitsOk butlerlaw03_awake.T5.2 butlerlaw03_awake.B5 = true := by kernel_rfl
def butlerlaw03_awake.f : Option Bool := some true
attribute [local go_sem high] eqA33
set_option maxHeartbeats 8000000 in
set_option maxRecDepth 100000 in
theorem butlerlaw03_awake.calls (r : Bool) (w : World) (htab : Tab w) (h : butlerlaw03_awake.f = some r) :
    Calls Tryd.prog 7 #[] w fun e w' => e = .returned (.bool r) ∧ Below w.heap.size w w' := by
  obtain rfl : true = r := Option.some.inj h
  clear h
  have HT := Aside0.mk htab
  clear htab
  have HB := Aside0.mk (Below.refl w.heap.size w)
  go_enter Tryd.func7, Tryd.ntmps7
  go_upto_region 2 with (first
    | (go_at_call 23; (with_reducible refine (butlerlaw03_call.calls _ _ _ _ _ _ _ _ _ _ _ _ _ _ _ rfl).mono ?_); rintro e wc ⟨rfl, hb⟩; have n_ := Aside0.mk (below_then HB.out HB.out.size hb); clear HB; have HB := n_; clear n_ hb)
    | (go_at_call 10; have hblk := blk_new wc (.cells (flat33 exA).toArray 33); (refine (history_Linear.calls 1 0 (some ⟨wc.heap.size, 0, none⟩) 2 exA _ _ _ (HT.out.below (below_alloc HB.out _)) (C33_blk hblk (by simp) (by decide)) (by decide) lin_exA).mono ?_); rintro e wd ⟨rfl, hb⟩; have n_ := Aside0.mk (below_then (below_alloc HB.out _) (below_alloc HB.out (.cells (flat33 exA).toArray 33)).size hb); clear HB; have HB := n_; clear n_ hb hblk))
  go_upto_region 3 with (first
    | (go_at_call 23; (with_reducible refine (butlerlaw03_call.calls _ _ _ _ _ _ _ _ _ _ _ _ _ _ _ rfl).mono ?_); rintro e wc ⟨rfl, hb⟩; have n_ := Aside0.mk (below_then HB.out HB.out.size hb); clear HB; have HB := n_; clear n_ hb)
    | (go_at_call 10; have hblk := blk_new wc (.cells (flat33 exB).toArray 33); (refine (history_Linear.calls 1 0 (some ⟨wc.heap.size, 0, none⟩) 2 exB _ _ _ (HT.out.below (below_alloc HB.out _)) (C33_blk hblk (by simp) (by decide)) (by decide) lin_exB).mono ?_); rintro e wd ⟨rfl, hb⟩; have n_ := Aside0.mk (below_then (below_alloc HB.out _) (below_alloc HB.out (.cells (flat33 exB).toArray 33)).size hb); clear HB; have HB := n_; clear n_ hb hblk))
  go_upto_region 4 with (go_at_call 10; (refine (history_Linear.calls 6 0 none 0 [] _ _ _ (HT.out.below HB.out) (Kd.C_nil _ _) (by decide) lin_exC).mono ?_); rintro e we ⟨rfl, hb⟩; have n_ := Aside0.mk (below_then HB.out HB.out.size hb); clear HB; have HB := n_; clear n_ hb)
  go_upto_region 5 with (go_at_call 15; (refine (of_awake (we.heap.size + 1) we.heap.size (we.heap.size + 1 + 1 + 1) (we.heap.size + 1 + 1) (we.heap.size + 1 + 1 + 1 + 1) _ (oargs_new we)).mono ?_); rintro e wf ⟨vf, rfl, hR, hb⟩; obtain ⟨gf, cf, ef, hx1, hx2, hx3⟩ := Kd.R_form hR (by decide); subst ef; obtain ⟨hc1, hc2, hraw⟩ := Raw.of hR; have HQ := Aside0.mk hraw; clear hx1 hx2 hx3 hc1 hc2 hraw; have n_ := Aside0.mk (below_then (below_then (below_then (below_then (below_then (below_then HB.out HB.out.size (below_alloc (Below.refl _ _) _)) (by have := HB.out.size; simp; omega) (below_alloc (Below.refl _ _) _)) (by have := HB.out.size; simp; omega) (below_alloc (Below.refl _ _) _)) (by have := HB.out.size; simp; omega) (below_alloc (Below.refl _ _) _)) (by have := HB.out.size; simp; omega) (below_alloc (Below.refl _ _) _)) (by have := HB.out.size; simp; omega) hb); clear HB; have HB := n_; clear n_ hb hR)
  obtain ⟨y0, y0'⟩ := HQ.out.cell 0 _ rfl (by decide)
  obtain ⟨y1, y1'⟩ := HQ.out.cell 1 _ rfl (by decide)
  obtain ⟨y2, y2'⟩ := HQ.out.cell 2 _ rfl (by decide)
  obtain ⟨y3, y3'⟩ := HQ.out.cell 3 _ rfl (by decide)
  obtain ⟨y4, y4'⟩ := HQ.out.cell 4 _ rfl (by decide)
  obtain ⟨y5, y5'⟩ := HQ.out.cell 5 _ rfl (by decide)
  obtain ⟨y6, y6'⟩ := HQ.out.cell 6 _ rfl (by decide)
  obtain ⟨y7, y7'⟩ := HQ.out.cell 7 _ rfl (by decide)
  clear y0' y1' y2' y3' y4' y5' y6' y7' HQ
  have n6_ := Aside0.mk (below_drew1 HB.out)
  clear HB
  have HB := n6_
  clear n6_
  refine start_ (n := 34) (S := fun w' => w'.cell? ⟨gf, 0, none⟩ = some (.int .i64 0) ∧ w'.cell? ⟨gf, 1, none⟩ = some (.int .i64 2) ∧ w'.cell? ⟨gf, 2, none⟩ = some (.int .i64 7) ∧ w'.cell? ⟨gf, 3, none⟩ = some (.int .i64 0) ∧ w'.cell? ⟨gf, 4, none⟩ = some (.int .i64 0) ∧ w'.cell? ⟨gf, 5, none⟩ = some (.int .i64 2) ∧ w'.cell? ⟨gf, 6, none⟩ = some (.int .i64 0) ∧ w'.cell? ⟨gf, 7, none⟩ = some (.int .i64 9)) (ds := []) #[false, false, false, false, false, false, false, false, false, false, false, false, false, false, false, false, false, false, false, false, false, false, false, false, false, false, false, false, false, false, false, false, false, false] (by kernel_rfl) rfl rfl ⟨y0, y1, y2, y3, y4, y5, y6, y7⟩ (fun hHeld => ?_); refine with_tabW butlerlaw03_awake.tab5 butlerlaw03_awake.bits5 (fun HT_ HW_ => ?_)
  generalize wf.drew = w77 at HB hHeld ⊢
  refine pure_ (i := 0) (N := some 41) (v := ?_) (a' := ?_) #[true, false, false, false, false, false, false, false, false, false, false, false, false, false, false, false, false, false, false, false, false, false, false, false, false, false, false, false, false, false, false, false, false, false] rfl rfl (any_of HT_.out (by kernel_rfl)) (fun _ _ _ h => h) (Or.inl ⟨by rfl, ?_⟩) ?_ ?_
  rotate_left
  ·intro w'
   go_simp
   with_reducible rfl
  rotate_left
  ·simp only [Act.put, List.setIfInBounds_toArray, List.set_cons_zero, List.set_cons_succ, i64_w, i32_w]
   rfl
  refine pure_ (i := 1) (N := some 42) (v := ?_) (a' := ?_) #[true, true, false, false, false, false, false, false, false, false, false, false, false, false, false, false, false, false, false, false, false, false, false, false, false, false, false, false, false, false, false, false, false, false] rfl rfl (any_of HT_.out (by kernel_rfl)) (fun _ _ _ h => h) (Or.inl ⟨by rfl, ?_⟩) ?_ ?_
  rotate_left
  ·intro w'
   go_simp
   with_reducible rfl
  rotate_left
  ·simp only [Act.put, List.setIfInBounds_toArray, List.set_cons_zero, List.set_cons_succ, i64_w, i32_w]
   rfl
  refine pure_ (i := 2) (N := some 43) (v := ?_) (a' := ?_) #[true, true, true, false, false, false, false, false, false, false, false, false, false, false, false, false, false, false, false, false, false, false, false, false, false, false, false, false, false, false, false, false, false, false] rfl rfl (any_of HT_.out (by kernel_rfl)) (fun _ _ _ h => h) (Or.inl ⟨by rfl, ?_⟩) ?_ ?_
  rotate_left
  ·intro w'
   go_simp
   with_reducible rfl
  rotate_left
  ·simp only [Act.put, List.setIfInBounds_toArray, List.set_cons_zero, List.set_cons_succ, i64_w, i32_w]
   rfl
  refine pure_ (i := 3) (N := some 44) (v := ?_) (a' := ?_) #[true, true, true, true, false, false, false, false, false, false, false, false, false, false, false, false, false, false, false, false, false, false, false, false, false, false, false, false, false, false, false, false, false, false] rfl rfl (any_of HT_.out (by kernel_rfl)) (fun _ _ _ h => h) (Or.inl ⟨by rfl, ?_⟩) ?_ ?_
  rotate_left
  ·intro w'
   go_simp
   with_reducible rfl
  rotate_left
  ·simp only [Act.put, List.setIfInBounds_toArray, List.set_cons_zero, List.set_cons_succ, i64_w, i32_w]
   rfl
  refine pure_ (i := 4) (N := some 45) (v := ?_) (a' := ?_) #[true, true, true, true, true, false, false, false, false, false, false, false, false, false, false, false, false, false, false, false, false, false, false, false, false, false, false, false, false, false, false, false, false, false] rfl rfl (any_of HT_.out (by kernel_rfl)) (fun _ _ _ h => h) (Or.inl ⟨by rfl, ?_⟩) ?_ ?_
  rotate_left
  ·intro w'
   go_simp
   with_reducible rfl
  rotate_left
  ·simp only [Act.put, List.setIfInBounds_toArray, List.set_cons_zero, List.set_cons_succ, i64_w, i32_w]
   rfl
  refine pure_ (i := 5) (N := some 46) (v := ?_) (a' := ?_) #[true, true, true, true, true, true, false, false, false, false, false, false, false, false, false, false, false, false, false, false, false, false, false, false, false, false, false, false, false, false, false, false, false, false] rfl rfl (any_of HT_.out (by kernel_rfl)) (fun _ _ _ h => h) (Or.inl ⟨by rfl, ?_⟩) ?_ ?_
  rotate_left
  ·intro w'
   go_simp
   with_reducible rfl
  rotate_left
  ·simp only [Act.put, List.setIfInBounds_toArray, List.set_cons_zero, List.set_cons_succ, i64_w, i32_w]
   rfl
  refine pure_ (i := 6) (N := some 47) (v := ?_) (a' := ?_) #[true, true, true, true, true, true, true, false, false, false, false, false, false, false, false, false, false, false, false, false, false, false, false, false, false, false, false, false, false, false, false, false, false, false] rfl rfl (any_of HT_.out (by kernel_rfl)) (fun _ _ _ h => h) (Or.inl ⟨by rfl, ?_⟩) ?_ ?_
  rotate_left
  ·intro w'
   go_simp
   with_reducible rfl
  rotate_left
  ·simp only [Act.put, List.setIfInBounds_toArray, List.set_cons_zero, List.set_cons_succ, i64_w, i32_w]
   rfl
  refine pure_ (i := 7) (N := some 48) (v := ?_) (a' := ?_) #[true, true, true, true, true, true, true, true, false, false, false, false, false, false, false, false, false, false, false, false, false, false, false, false, false, false, false, false, false, false, false, false, false, false] rfl rfl (any_of HT_.out (by kernel_rfl)) (fun _ _ _ h => h) (Or.inl ⟨by rfl, ?_⟩) ?_ ?_
  rotate_left
  ·intro w'
   go_simp
   with_reducible rfl
  rotate_left
  ·simp only [Act.put, List.setIfInBounds_toArray, List.set_cons_zero, List.set_cons_succ, i64_w, i32_w]
   rfl
  refine pure_ (i := 8) (N := some 49) (v := ?_) (a' := ?_) #[true, true, true, true, true, true, true, true, true, false, false, false, false, false, false, false, false, false, false, false, false, false, false, false, false, false, false, false, false, false, false, false, false, false] rfl rfl (any_of HT_.out (by kernel_rfl)) (fun _ _ _ h => h) (Or.inl ⟨by rfl, ?_⟩) ?_ ?_
  rotate_left
  ·intro w'
   go_simp
   with_reducible rfl
  rotate_left
  ·simp only [Act.put, List.setIfInBounds_toArray, List.set_cons_zero, List.set_cons_succ, i64_w, i32_w]
   rfl
  refine pure_ (i := 9) (N := some 50) (v := ?_) (a' := ?_) #[true, true, true, true, true, true, true, true, true, true, false, false, false, false, false, false, false, false, false, false, false, false, false, false, false, false, false, false, false, false, false, false, false, false] rfl rfl (any_of HT_.out (by kernel_rfl)) (fun _ _ _ h => h) (Or.inl ⟨by rfl, ?_⟩) ?_ ?_
  rotate_left
  ·intro w'
   go_simp
   with_reducible rfl
  rotate_left
  ·simp only [Act.put, List.setIfInBounds_toArray, List.set_cons_zero, List.set_cons_succ, i64_w, i32_w]
   rfl
  refine pure_ (i := 10) (N := some 51) (v := ?_) (a' := ?_) #[true, true, true, true, true, true, true, true, true, true, true, false, false, false, false, false, false, false, false, false, false, false, false, false, false, false, false, false, false, false, false, false, false, false] rfl rfl (any_of HT_.out (by kernel_rfl)) (fun _ _ _ h => h) (Or.inl ⟨by rfl, ?_⟩) ?_ ?_
  rotate_left
  ·intro w'
   go_simp
   with_reducible rfl
  rotate_left
  ·simp only [Act.put, List.setIfInBounds_toArray, List.set_cons_zero, List.set_cons_succ, i64_w, i32_w]
   rfl
  refine pure_ (i := 11) (N := some 52) (v := ?_) (a' := ?_) #[true, true, true, true, true, true, true, true, true, true, true, true, false, false, false, false, false, false, false, false, false, false, false, false, false, false, false, false, false, false, false, false, false, false] rfl rfl (any_of HT_.out (by kernel_rfl)) (fun _ _ _ h => h) (Or.inl ⟨by rfl, ?_⟩) ?_ ?_
  rotate_left
  ·intro w'
   go_simp
   with_reducible rfl
  rotate_left
  ·simp only [Act.put, List.setIfInBounds_toArray, List.set_cons_zero, List.set_cons_succ, i64_w, i32_w]
   rfl
  refine pure_ (i := 12) (N := some 53) (v := ?_) (a' := ?_) #[true, true, true, true, true, true, true, true, true, true, true, true, true, false, false, false, false, false, false, false, false, false, false, false, false, false, false, false, false, false, false, false, false, false] rfl rfl (any_of HT_.out (by kernel_rfl)) (fun _ _ _ h => h) (Or.inl ⟨by rfl, ?_⟩) ?_ ?_
  rotate_left
  ·intro w'
   go_simp
   with_reducible rfl
  rotate_left
  ·simp only [Act.put, List.setIfInBounds_toArray, List.set_cons_zero, List.set_cons_succ, i64_w, i32_w]
   rfl
  refine pure_ (i := 13) (N := some 54) (v := ?_) (a' := ?_) #[true, true, true, true, true, true, true, true, true, true, true, true, true, true, false, false, false, false, false, false, false, false, false, false, false, false, false, false, false, false, false, false, false, false] rfl rfl (any_of HT_.out (by kernel_rfl)) (fun _ _ _ h => h) (Or.inl ⟨by rfl, ?_⟩) ?_ ?_
  rotate_left
  ·intro w'
   go_simp
   with_reducible rfl
  rotate_left
  ·simp only [Act.put, List.setIfInBounds_toArray, List.set_cons_zero, List.set_cons_succ, i64_w, i32_w]
   rfl
  refine pure_ (i := 14) (N := some 55) (v := ?_) (a' := ?_) #[true, true, true, true, true, true, true, true, true, true, true, true, true, true, true, false, false, false, false, false, false, false, false, false, false, false, false, false, false, false, false, false, false, false] rfl rfl (any_of HT_.out (by kernel_rfl)) (fun _ _ _ h => h) (Or.inl ⟨by rfl, ?_⟩) ?_ ?_
  rotate_left
  ·intro w'
   go_simp
   with_reducible rfl
  rotate_left
  ·simp only [Act.put, List.setIfInBounds_toArray, List.set_cons_zero, List.set_cons_succ, i64_w, i32_w]
   rfl
  refine pure_ (i := 15) (N := some 56) (v := ?_) (a' := ?_) #[true, true, true, true, true, true, true, true, true, true, true, true, true, true, true, true, false, false, false, false, false, false, false, false, false, false, false, false, false, false, false, false, false, false] rfl rfl (any_of HT_.out (by kernel_rfl)) (fun _ _ _ h => h) (Or.inl ⟨by rfl, ?_⟩) ?_ ?_
  rotate_left
  ·intro w'
   go_simp
   with_reducible rfl
  rotate_left
  ·simp only [Act.put, List.setIfInBounds_toArray, List.set_cons_zero, List.set_cons_succ, i64_w, i32_w]
   rfl
  refine pure_ (i := 16) (N := some 57) (v := ?_) (a' := ?_) #[true, true, true, true, true, true, true, true, true, true, true, true, true, true, true, true, true, false, false, false, false, false, false, false, false, false, false, false, false, false, false, false, false, false] rfl rfl (any_of HT_.out (by kernel_rfl)) (fun _ _ _ h => h) (Or.inl ⟨by rfl, ?_⟩) ?_ ?_
  rotate_left
  ·intro w'
   go_simp
   with_reducible rfl
  rotate_left
  ·simp only [Act.put, List.setIfInBounds_toArray, List.set_cons_zero, List.set_cons_succ, i64_w, i32_w]
   rfl
  refine pure_ (i := 17) (N := some 58) (v := ?_) (a' := ?_) #[true, true, true, true, true, true, true, true, true, true, true, true, true, true, true, true, true, true, false, false, false, false, false, false, false, false, false, false, false, false, false, false, false, false] rfl rfl (any_of HT_.out (by kernel_rfl)) (fun _ _ _ h => h) (Or.inl ⟨by rfl, ?_⟩) ?_ ?_
  rotate_left
  ·intro w'
   go_simp
   with_reducible rfl
  rotate_left
  ·simp only [Act.put, List.setIfInBounds_toArray, List.set_cons_zero, List.set_cons_succ, i64_w, i32_w]
   rfl
  refine pure_ (i := 18) (N := some 59) (v := ?_) (a' := ?_) #[true, true, true, true, true, true, true, true, true, true, true, true, true, true, true, true, true, true, true, false, false, false, false, false, false, false, false, false, false, false, false, false, false, false] rfl rfl (any_of HT_.out (by kernel_rfl)) (fun _ _ _ h => h) (Or.inl ⟨by rfl, ?_⟩) ?_ ?_
  rotate_left
  ·intro w'
   go_simp
   with_reducible rfl
  rotate_left
  ·simp only [Act.put, List.setIfInBounds_toArray, List.set_cons_zero, List.set_cons_succ, i64_w, i32_w]
   rfl
  refine pure_ (i := 19) (N := some 60) (v := ?_) (a' := ?_) #[true, true, true, true, true, true, true, true, true, true, true, true, true, true, true, true, true, true, true, true, false, false, false, false, false, false, false, false, false, false, false, false, false, false] rfl rfl (any_of HT_.out (by kernel_rfl)) (fun _ _ _ h => h) (Or.inl ⟨by rfl, ?_⟩) ?_ ?_
  rotate_left
  ·intro w'
   go_simp
   with_reducible rfl
  rotate_left
  ·simp only [Act.put, List.setIfInBounds_toArray, List.set_cons_zero, List.set_cons_succ, i64_w, i32_w]
   rfl
  refine pure_ (i := 20) (N := some 61) (v := ?_) (a' := ?_) #[true, true, true, true, true, true, true, true, true, true, true, true, true, true, true, true, true, true, true, true, true, false, false, false, false, false, false, false, false, false, false, false, false, false] rfl rfl (any_of HT_.out (by kernel_rfl)) (fun _ _ _ h => h) (Or.inl ⟨by rfl, ?_⟩) ?_ ?_
  rotate_left
  ·intro w'
   go_simp
   with_reducible rfl
  rotate_left
  ·simp only [Act.put, List.setIfInBounds_toArray, List.set_cons_zero, List.set_cons_succ, i64_w, i32_w]
   rfl
  refine pure_ (i := 21) (N := some 62) (v := ?_) (a' := ?_) #[true, true, true, true, true, true, true, true, true, true, true, true, true, true, true, true, true, true, true, true, true, true, false, false, false, false, false, false, false, false, false, false, false, false] rfl rfl (any_of HT_.out (by kernel_rfl)) (fun _ _ _ h => h) (Or.inl ⟨by rfl, ?_⟩) ?_ ?_
  rotate_left
  ·intro w'
   go_simp
   with_reducible rfl
  rotate_left
  ·simp only [Act.put, List.setIfInBounds_toArray, List.set_cons_zero, List.set_cons_succ, i64_w, i32_w]
   rfl
  refine pure_ (i := 22) (N := some 63) (v := ?_) (a' := ?_) #[true, true, true, true, true, true, true, true, true, true, true, true, true, true, true, true, true, true, true, true, true, true, true, false, false, false, false, false, false, false, false, false, false, false] rfl rfl (any_of HT_.out (by kernel_rfl)) (fun _ _ _ h => h) (Or.inl ⟨by rfl, ?_⟩) ?_ ?_
  rotate_left
  ·intro w'
   go_simp
   with_reducible rfl
  rotate_left
  ·simp only [Act.put, List.setIfInBounds_toArray, List.set_cons_zero, List.set_cons_succ, i64_w, i32_w]
   rfl
  refine pure_ (i := 23) (N := some 64) (v := ?_) (a' := ?_) #[true, true, true, true, true, true, true, true, true, true, true, true, true, true, true, true, true, true, true, true, true, true, true, true, false, false, false, false, false, false, false, false, false, false] rfl rfl (any_of HT_.out (by kernel_rfl)) (fun _ _ _ h => h) (Or.inl ⟨by rfl, ?_⟩) ?_ ?_
  rotate_left
  ·intro w'
   go_simp
   with_reducible rfl
  rotate_left
  ·simp only [Act.put, List.setIfInBounds_toArray, List.set_cons_zero, List.set_cons_succ, i64_w, i32_w]
   rfl
  refine pure_ (i := 24) (N := some 65) (v := ?_) (a' := ?_) #[true, true, true, true, true, true, true, true, true, true, true, true, true, true, true, true, true, true, true, true, true, true, true, true, true, false, false, false, false, false, false, false, false, false] rfl rfl (any_of HT_.out (by kernel_rfl)) (fun _ _ _ h => h) (Or.inl ⟨by rfl, ?_⟩) ?_ ?_
  rotate_left
  ·intro w'
   go_simp
   with_reducible rfl
  rotate_left
  ·simp only [Act.put, List.setIfInBounds_toArray, List.set_cons_zero, List.set_cons_succ, i64_w, i32_w]
   rfl
  refine pure_ (i := 25) (N := some 66) (v := ?_) (a' := ?_) #[true, true, true, true, true, true, true, true, true, true, true, true, true, true, true, true, true, true, true, true, true, true, true, true, true, true, false, false, false, false, false, false, false, false] rfl rfl (any_of HT_.out (by kernel_rfl)) (fun _ _ _ h => h) (Or.inl ⟨by rfl, ?_⟩) ?_ ?_
  rotate_left
  ·intro w'
   go_simp
   with_reducible rfl
  rotate_left
  ·simp only [Act.put, List.setIfInBounds_toArray, List.set_cons_zero, List.set_cons_succ, i64_w, i32_w]
   rfl
  refine pure_ (i := 26) (N := some 67) (v := ?_) (a' := ?_) #[true, true, true, true, true, true, true, true, true, true, true, true, true, true, true, true, true, true, true, true, true, true, true, true, true, true, true, false, false, false, false, false, false, false] rfl rfl (any_of HT_.out (by kernel_rfl)) (fun _ _ _ h => h) (Or.inl ⟨by rfl, ?_⟩) ?_ ?_
  rotate_left
  ·intro w'
   go_simp
   with_reducible rfl
  rotate_left
  ·simp only [Act.put, List.setIfInBounds_toArray, List.set_cons_zero, List.set_cons_succ, i64_w, i32_w]
   rfl
  refine pure_ (i := 27) (N := some 68) (v := ?_) (a' := ?_) #[true, true, true, true, true, true, true, true, true, true, true, true, true, true, true, true, true, true, true, true, true, true, true, true, true, true, true, true, false, false, false, false, false, false] rfl rfl (any_of HT_.out (by kernel_rfl)) (fun _ _ _ h => h) (Or.inl ⟨by rfl, ?_⟩) ?_ ?_
  rotate_left
  ·intro w'
   go_simp
   with_reducible rfl
  rotate_left
  ·simp only [Act.put, List.setIfInBounds_toArray, List.set_cons_zero, List.set_cons_succ, i64_w, i32_w]
   rfl
  refine pure_ (i := 28) (N := some 69) (v := ?_) (a' := ?_) #[true, true, true, true, true, true, true, true, true, true, true, true, true, true, true, true, true, true, true, true, true, true, true, true, true, true, true, true, true, false, false, false, false, false] rfl rfl (any_of HT_.out (by kernel_rfl)) (fun _ _ _ h => h) (Or.inl ⟨by rfl, ?_⟩) ?_ ?_
  rotate_left
  ·intro w'
   go_simp
   with_reducible rfl
  rotate_left
  ·simp only [Act.put, List.setIfInBounds_toArray, List.set_cons_zero, List.set_cons_succ, i64_w, i32_w]
   rfl
  refine take_ (i := 29) (N := some 70) (v := ?_) (a' := ?_) #[true, true, true, true, true, true, true, true, true, true, true, true, true, true, true, true, true, true, true, true, true, true, true, true, true, true, true, true, true, true, false, false, false, false] rfl rfl (take_ofW HT_.out HW_.out (by kernel_rfl)) (fun _ _ _ h => h) (Or.inl ⟨by rfl, ?_⟩) hHeld ?_ ?_
  rotate_left
  ·rintro w' ⟨s0, s1, s2, s3, s4, s5, s6, s7⟩
   go_simp
   with_reducible rfl
  rotate_left
  ·simp only [Act.put, List.setIfInBounds_toArray, List.set_cons_zero, List.set_cons_succ, i64_w, i32_w]
   rfl
  refine one_ (i := 30) (N := some 71) #[true, true, true, true, true, true, true, true, true, true, true, true, true, true, true, true, true, true, true, true, true, true, true, true, true, true, true, true, true, true, true, false, false, false] rfl rfl (one_of HT_.out (by kernel_rfl)) (by decide) (fun K hK => ?_)
  refine goes_ Tryd.func23 (by kernel_rfl) rfl #[.int .i64 0, .int .i64 2, .int .i64 7, .int .i64 0, .int .i64 2, .int .i64 9] (by rfl) rfl rfl (by (try simp only [List.map_toArray, List.map_cons, List.map_nil]); first | done | rfl | (simp only [List.length_drop, List.length_take]; rfl)) ?_
  with_reducible refine (butlerlaw03_call.calls 0 2 7 0 2 9 _ _ _ _ _ _ _ _ _ rfl).mono ?_
  rintro e w79 ⟨rfl, hb⟩
  have HS0_ := (hb.cell (World.block_lt_of_cell? _ _ (hHeld.1))).trans (hHeld.1)
  have HS1_ := (hb.cell (World.block_lt_of_cell? _ _ (hHeld.2.1))).trans (hHeld.2.1)
  have HS2_ := (hb.cell (World.block_lt_of_cell? _ _ (hHeld.2.2.1))).trans (hHeld.2.2.1)
  have HS3_ := (hb.cell (World.block_lt_of_cell? _ _ (hHeld.2.2.2.1))).trans (hHeld.2.2.2.1)
  have HS4_ := (hb.cell (World.block_lt_of_cell? _ _ (hHeld.2.2.2.2.1))).trans (hHeld.2.2.2.2.1)
  have HS5_ := (hb.cell (World.block_lt_of_cell? _ _ (hHeld.2.2.2.2.2.1))).trans (hHeld.2.2.2.2.2.1)
  have HS6_ := (hb.cell (World.block_lt_of_cell? _ _ (hHeld.2.2.2.2.2.2.1))).trans (hHeld.2.2.2.2.2.2.1)
  have HS7_ := (hb.cell (World.block_lt_of_cell? _ _ (hHeld.2.2.2.2.2.2.2))).trans (hHeld.2.2.2.2.2.2.2)
  refine ⟨_, rfl, ?_⟩
  have n6_ := Aside0.mk (below_then HB.out HB.out.size hb)
  clear HB
  have HB := n6_
  clear n6_
  (try clear hb)
  (try clear hb2)
  (try clear hk)
  (try clear hi)
  refine hK.out _ _ ⟨HS0_, HS1_, HS2_, HS3_, HS4_, HS5_, HS6_, HS7_⟩ (fun hHeld => ?_)
  clear hK K
  refine norm_ (a' := ?_) ?_ ?_
  rotate_left
  ·show Act.put _ (some 71) _ = _
   simp only [Act.put, List.setIfInBounds_toArray, List.set_cons_zero, List.set_cons_succ, i64_w, i32_w]
   rfl
  refine pure_ (i := 31) (N := some 72) (v := ?_) (a' := ?_) #[true, true, true, true, true, true, true, true, true, true, true, true, true, true, true, true, true, true, true, true, true, true, true, true, true, true, true, true, true, true, true, true, false, false] rfl rfl (any_of HT_.out (by kernel_rfl)) (fun _ _ _ h => h) (Or.inl ⟨by rfl, ?_⟩) ?_ ?_
  rotate_left
  ·intro w'
   go_simp
   with_reducible rfl
  rotate_left
  ·simp only [Act.put, List.setIfInBounds_toArray, List.set_cons_zero, List.set_cons_succ, i64_w, i32_w]
   rfl
  refine pure_ (i := 32) (N := some 73) (v := ?_) (a' := ?_) #[true, true, true, true, true, true, true, true, true, true, true, true, true, true, true, true, true, true, true, true, true, true, true, true, true, true, true, true, true, true, true, true, true, false] rfl rfl (any_of HT_.out (by kernel_rfl)) (fun _ _ _ h => h) (Or.inl ⟨by rfl, ?_⟩) ?_ ?_
  rotate_left
  ·intro w'
   go_simp
   with_reducible rfl
  rotate_left
  ·simp only [Act.put, List.setIfInBounds_toArray, List.set_cons_zero, List.set_cons_succ, i64_w, i32_w]
   rfl
  refine pure_ (i := 33) (N := some 0) (v := ?_) (a' := ?_) #[true, true, true, true, true, true, true, true, true, true, true, true, true, true, true, true, true, true, true, true, true, true, true, true, true, true, true, true, true, true, true, true, true, true] rfl rfl (any_of HT_.out (by kernel_rfl)) (fun _ _ _ h => h) (Or.inl ⟨by rfl, ?_⟩) ?_ ?_
  rotate_left
  ·intro w'
   go_simp
   with_reducible rfl
  rotate_left
  ·simp only [Act.put, List.setIfInBounds_toArray, List.set_cons_zero, List.set_cons_succ, i64_w, i32_w]
   rfl
  refine done_ (done_of HT_.out (by kernel_rfl)) ?_
  try go_wp2
  go_ret
  exact ⟨rfl, HB.out⟩
end Go.Proofs.YtakhipedjccpkaaDoor.PH
