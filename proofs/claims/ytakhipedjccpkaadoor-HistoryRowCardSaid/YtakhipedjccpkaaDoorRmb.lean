/- butlerlaw03.HistoryRow: its walk and its plain law. Conditions: the numbers are those of an int; the library's table stands. -/
import Derived.Test.YtakhipedjccpkaaDoorHm
import Derived.Test.YtakhipedjccpkaaDoorHl
import Derived.BigQuiet
import Derived.Test.YtakhipedjccpkaaDoorRma
import Derived.Test.YtakhipedjccpkaaDoorHb
import Derived.Test.YtakhipedjccpkaaDoorHv
import Derived.Deep.CutBlock
namespace Go.Proofs.YtakhipedjccpkaaDoor.PH
open Go.RowKit Go.Proofs.YtakhipedjccpkaaDoorW.PrintWords Go.Proofs.YtakhipedjccpkaaDoorW.PrintLast Go.Proofs.YtakhipedjccpkaaDoorW.PrintMore
attribute [local go_sem] max2_int min2_int max_two min_two max_three min_three max_four min_four
set_option linter.unusedVariables false
set_option linter.unusedSimpArgs false

/-- In whatever order they stand in the list. -/
theorem Gm.perm {n : Int} {m : List S33} {s : List Int} (h : Gm n m s) : ∀ m' : List S33, m.Perm m' → Gm n m' s := by
  induction h with
  | done hd => intro m' hp; exact .done (fun e he => hd e (hp.mem_iff.2 he))
  | step a e b x c d f g ih =>
    intro m' hp
    obtain ⟨a', b', rfl⟩ := List.append_of_mem (hp.mem_iff.1 (show e ∈ a ++ e :: b by simp))
    refine .step a' e b' x (fun y hy => c y (hp.mem_iff.2 hy)) d f (ih _ ?_)
    have h1 : (e :: (a ++ b)).Perm (e :: (a' ++ b')) := List.perm_middle.symm.trans (hp.trans List.perm_middle)
    exact h1.cons_inv
/-- One is behind the other, all are over. -/
def Seq : List S33 → Prop
  | [] => True
  | e :: m => e.f5 ≠ -1 ∧ aheadB e e = false ∧ (∀ y ∈ m, aheadB e y = true ∧ aheadB y e = false) ∧ Seq m
theorem Gm.nil (n : Int) (s : List Int) : Gm n [] s := .done (fun e he => by cases he)
theorem gm_seq {n : Int} {e : S33} {m : List S33} {s : List Int} (h : Seq (e :: m)) : Gm n (e :: m) s ↔ ∃ x ∈ waysOf n s e, x.f0 = e.f6 ∧ Gm n m x.f1 := by
  obtain ⟨h1, h2, h3, h4⟩ := h
  constructor
  · intro hg
    generalize hl : e :: m = l at hg
    cases hg with
    | done hd => subst hl; exact absurd (hd e (by simp)) h1
    | step a e' b x c d f g =>
      cases a with
      | nil =>
        simp at hl
        obtain ⟨rfl, rfl⟩ := hl
        rcases f with f | f
        · exact absurd f h1
        · exact ⟨x, d, f, g⟩
      | cons a0 a =>
        simp at hl
        obtain ⟨rfl, rfl⟩ := hl
        have := c e (by simp)
        rw [(h3 e' (by simp)).1] at this
        cases this
  · rintro ⟨x, hx, he, hg⟩
    exact .step [] e m x (by
      intro y hy
      rcases List.mem_cons.1 hy with rfl | hy
      · exact h2
      · exact (h3 y hy).2) hx (.inr he) hg
/-- Two events of one thread are one behind the other. -/
def Fits (x y : S33) : Prop := x.f0 = y.f0 → aheadB x y = true ∨ aheadB y x = true
def Times (x : S33) : Prop := 0 ≤ x.f4 ∧ (x.f5 = -1 ∨ x.f4 < x.f5)
theorem right_iff (l : List S33) : rightP l ↔ (∀ e ∈ l, Times e) ∧ l.Pairwise Fits := by
  constructor
  · intro h
    refine ⟨fun e he => ?_, ?_⟩
    · obtain ⟨i, hi, rfl⟩ := List.getElem_of_mem he
      have := (h i hi).1
      unfold timesAt at this
      rw [rd33_eq l hi] at this
      exact this
    · rw [List.pairwise_iff_getElem]
      intro i j hi hj hij hf
      have := (h j hj).2 i hij
      unfold fitsAt at this
      rw [rd33_eq l hi, rd33_eq l hj] at this
      exact (this hf.symm).symm
  · rintro ⟨h1, h2⟩ i hi
    refine ⟨?_, fun j hj => ?_⟩
    · unfold timesAt
      rw [rd33_eq l hi]
      exact h1 _ (List.getElem_mem hi)
    · unfold fitsAt
      have hj' : j < l.length := by omega
      rw [rd33_eq l hi, rd33_eq l hj']
      intro hf
      exact ((List.pairwise_iff_getElem.1 h2) j i hj' hi hj hf.symm).symm
theorem right_perm {l m : List S33} (h : l.Perm m) (hr : rightP l) : rightP m := by
  rw [right_iff] at hr ⊢
  refine ⟨fun e he => hr.1 e (h.mem_iff.2 he), ?_⟩
  exact (h.pairwise_iff (fun {x y} hxy hf => (hxy hf.symm).symm)).1 hr.2
/-- What Linear tells doesn't hang on how the events stand in the list. -/
theorem lin_perm {n start : Int} {l m : List S33} (h : l.Perm m) : linOf n start l = linOf n start m := by
  have hr : rightP l ↔ rightP m := ⟨right_perm h, right_perm h.symm⟩
  have hg : Gs n l 0 (state0 n start) ↔ Gs n m 0 (state0 n start) := by
    rw [gs_list, gs_list]; exact ⟨fun g => g.perm _ h, fun g => g.perm _ h.symm⟩
  unfold linOf
  rw [h.length_eq]
  by_cases h1 : Begun n start
  · rw [if_neg (not_not_intro h1), if_neg (not_not_intro h1)]
    split
    · rfl
    · by_cases h2 : rightP l
      · rw [if_neg (not_not_intro h2), if_neg (not_not_intro (hr.1 h2))]
        congr 1
        exact decide_eq_decide.2 hg
      · rw [if_pos h2, if_pos (fun h3 => h2 (hr.2 h3))]
  · rw [if_pos h1, if_pos h1]


def rowE (i : Nat) (x : S33) : S33 := ⟨x.f0, x.f1, x.f2, x.f3, 2 * (i : Int), 2 * (i : Int) + 1, x.f6⟩
/-- The events from number i on, one behind the other. -/
def rowFrom (i : Nat) : List S33 → List S33
  | [] => []
  | x :: l => rowE i x :: rowFrom (i + 1) l
def rowOf (l : List S33) : List S33 := rowFrom 0 (l.take 12)
theorem rowFrom_len : ∀ (l : List S33) (i : Nat), (rowFrom i l).length = l.length
  | [], _ => rfl
  | x :: l, i => by simp [rowFrom, rowFrom_len l (i + 1)]
theorem rowFrom_mem : ∀ {l : List S33} {i : Nat} {e : S33}, e ∈ rowFrom i l → ∃ j x, i ≤ j ∧ x ∈ l ∧ e = rowE j x
  | x :: l, i, e, h => by
    rcases List.mem_cons.1 h with rfl | h
    · exact ⟨i, x, Nat.le_refl _, by simp, rfl⟩
    · obtain ⟨j, y, h1, h2, h3⟩ := rowFrom_mem h
      exact ⟨j, y, by omega, by simp [h2], h3⟩
theorem rowE_ahead {i j : Nat} (x y : S33) : aheadB (rowE i x) (rowE j y) = decide (i < j) := by
  unfold aheadB rowE
  simp only
  rw [if_neg (by omega)]
  congr 1
  simp only [eq_iff_iff]
  omega
theorem seq_row : ∀ (l : List S33) (i : Nat), Seq (rowFrom i l)
  | [], _ => trivial
  | x :: l, i => by
    refine ⟨by simp only [rowE]; omega, by rw [rowE_ahead]; simp, fun y hy => ?_, seq_row l (i + 1)⟩
    obtain ⟨j, z, h1, _, rfl⟩ := rowFrom_mem hy
    rw [rowE_ahead, rowE_ahead]
    simp; omega
theorem right_row (l : List S33) (i : Nat) : rightP (rowFrom i l) := by
  rw [right_iff]
  refine ⟨fun e he => ?_, ?_⟩
  · obtain ⟨j, x, _, _, rfl⟩ := rowFrom_mem he
    simp only [Times, rowE]; omega
  · have gen : ∀ (l : List S33) (i : Nat), (rowFrom i l).Pairwise Fits := by
      intro l
      induction l with
      | nil => intro i; exact List.Pairwise.nil
      | cons x l ih =>
        intro i
        refine List.Pairwise.cons (fun y hy _ => ?_) (ih (i + 1))
        obtain ⟨j, z, h1, _, rfl⟩ := rowFrom_mem hy
        left; rw [rowE_ahead]; simp; omega
    exact gen l i
theorem nums_row {l : List S33} (h : Nums l) (i : Nat) : Nums (rowFrom i l) := by
  intro e he
  obtain ⟨j, x, _, hx, rfl⟩ := rowFrom_mem he
  exact h x hx
theorem nums_take {l : List S33} (h : Nums l) (k : Nat) : Nums (l.take k) := fun e he => h e (List.mem_of_mem_take he)
theorem rowFrom_snoc : ∀ (l : List S33) (i : Nat) (x : S33), rowFrom i (l ++ [x]) = rowFrom i l ++ [rowE (i + l.length) x]
  | [], i, x => by simp [rowFrom]
  | y :: l, i, x => by simp [rowFrom, rowFrom_snoc l (i + 1) x]; congr 1; omega
theorem gb_set33 (W : World) (b j : Nat) (v : Value) : W.grownBy (W.setCell ⟨b, j, none⟩ v) (some b) := ⟨rfl, rfl, rfl, by simp, fun i hi hne => Below.heap_setCell W ⟨b, j, none⟩ v i (fun e => hne (by rw [e]))⟩
theorem rowOf_len (l : List S33) : (rowOf l).length ≤ 12 := by unfold rowOf; rw [rowFrom_len]; simp; omega
theorem row_next (l : List S33) {i : Nat} (h : i < l.length) : rowFrom 0 (l.take (i + 1)) = rowFrom 0 (l.take i) ++ [rowE i (rd_T33 l (i : Int))] := by
  rw [take33 l h, rowFrom_snoc]
  have : (l.take i).length = i := by simp; omega
  rw [this, Nat.zero_add]
set_option maxHeartbeats 8000000 in
set_option maxRecDepth 100000 in
theorem row_calls (A0 : Option Addr) (c0 : Nat) (l : List S33) (w : World) (hC : Kd.C k33 w A0 l.length l) (hc : l.length ≤ c0) :
    Calls Tryd.prog 18 #[.slice A0 l.length c0] w fun e w' => ∃ v : Value, e = .returned v ∧ Kd.R k33 33 w' w.heap.size (fun _ => True) v (rowOf l) ∧ Below w.heap.size w w' := by
  have HC := Aside0.mk hC
  have HB := Aside0.mk (Below.refl w.heap.size w)
  clear hC hc
  go_enter Tryd.func18, Tryd.ntmps18
  go_wp2
  go_loopg [3, 4] 13 (fun gk v3 v4 wr => ∃ i : Nat, v4 = .int .i64 i ∧ i ≤ 12 ∧ i ≤ l.length ∧ 12 - i < gk ∧ Aside0 (Kd.R k33 33 wr w.heap.size (fun _ => True) v3 (rowFrom 0 (l.take i))) ∧ Aside0 (Below w.heap.size w wr))
  case atStart => exact ⟨0, rfl, by omega, by omega, by omega, ⟨Kd.R_nil _ _ _ _ _⟩, HB⟩
  case round =>
    clear HB
    obtain ⟨i, rfl, i12, il, hgk, HO, HBv⟩ := hrel
    by_cases hlt : i < l.length
    · have hlt' : decide ((i : Int) < (l.length : Int)) = true := decide_eq_true (by omega)
      by_cases h12 : i < 12
      · have h12' : decide ((i : Int) < 12) = true := decide_eq_true (by omega)
        have HNX := Aside0.mk (row_next l hlt)
        obtain ⟨ad, e1, x0, x1, x2, x3, x4, x5, x6, x7⟩ := at_T33 (Kd.C_below HC.out HBv.out) (i : Int) (by omega) (by omega)
        subst e1
        rw [Int.toNat_natCast] at x0 x1 x2 x3 x4 x5 x6 x7
        obtain ⟨x, hx⟩ : ∃ x, x = rd_T33 l (i : Int) := ⟨_, rfl⟩
        rw [← hx] at x0 x1 x2 x3 x4 x5 x6 x7
        have HX := Aside0.mk hx
        clear hx
        go_upto_region 6 with (fail)
        obtain ⟨wb, hwb⟩ : ∃ wb, wb = wr.alloc (.cells #[.int .i64 x.f0, .int .i64 x.f1, .int .i64 x.f2, .int .i64 x.f3, .int .i64 x.f4, .int .i64 x.f5, .int .i64 x.f6.f0, .int .i64 x.f6.f1] 33) := ⟨_, rfl⟩
        have hlb : Below wr.heap.size wr wb := by rw [hwb]; exact below_alloc (Below.refl _ _) _
        have HBX : Aside0 (wb.heap[wr.heap.size]? = some (oS33 x)) := ⟨by rw [hwb]; exact blk_new wr _⟩
        have HOb := Aside0.mk (Kd.R_below HO.out hlb)
        have HBb : Aside0 (Below w.heap.size w wb) := ⟨below_then HBv.out HBv.out.size hlb⟩
        have HNEW : ∀ k, u3.ownBlock = some k → k < wr.heap.size := Kd.R_lt HO.out
        have hwz := HBv.out.size
        rw [← hwb]
        clear hwb hlb x0 x1 x2 x3 x4 x5 x6 x7 HO HBv
        obtain ⟨y0, y1, y2, y3, y4, y5, y6, y7⟩ := cells_event HBX.out
        have y4' := blk_frozen HBX.out 4
        have y5' := blk_frozen HBX.out 5
        go_upto_region 8 with (fail)
        obtain ⟨wd, hwd⟩ : ∃ wd, wd = (wb.setCell ⟨wr.heap.size, 4, none⟩ (.int .i64 (2 * (i : Int)))).setCell ⟨wr.heap.size, 5, none⟩ (.int .i64 (2 * (i : Int) + 1)) := ⟨_, rfl⟩
        have HBX2 : Aside0 (wd.heap[wr.heap.size]? = some (oS33 (rowE i x))) := ⟨by
          rw [hwd]
          exact blk_put (cs := #[.int .i64 x.f0, .int .i64 x.f1, .int .i64 x.f2, .int .i64 x.f3, .int .i64 (2 * (i : Int)), .int .i64 x.f5, .int .i64 x.f6.f0, .int .i64 x.f6.f1]) (blk_put (cs := #[.int .i64 x.f0, .int .i64 x.f1, .int .i64 x.f2, .int .i64 x.f3, .int .i64 x.f4, .int .i64 x.f5, .int .i64 x.f6.f0, .int .i64 x.f6.f1]) HBX.out 4 _ rfl) 5 _ rfl⟩
        have HBd : Aside0 (Below w.heap.size w wd) := ⟨by rw [hwd]; exact (HBb.out.setCell (p := ⟨wr.heap.size, 4, none⟩) hwz _).setCell (p := ⟨wr.heap.size, 5, none⟩) hwz _⟩
        have HOd : Aside0 (Kd.R k33 33 wd w.heap.size (fun _ => True) u3 (rowFrom 0 (l.take i))) := ⟨by
          rw [hwd]
          have hne : ∀ k, some wr.heap.size = some k → some k ≠ u3.ownBlock := by intro k hk hk2; injection hk with hk; subst hk; exact absurd (HNEW _ hk2.symm) (Nat.lt_irrefl _)
          exact Kd.R_grown2 (Kd.R_grown2 HOb.out rfl (gb_set33 _ _ _ _) hne) rfl (gb_set33 _ _ _ _) hne⟩
        rw [← hwd]
        clear hwd y0 y1 y2 y3 y4 y5 y6 y7 y4' y5'
        obtain ⟨y0, y1, y2, y3, y4, y5, y6, y7⟩ := cells_event HBX2.out
        simp only [rowE] at y0 y1 y2 y3 y4 y5 y6 y7
        go_wp2_with ((with_reducible refine gate_builtin (b := .append) (xs := #[.tmp 27, .tmp 29]) rfl ?_); at_builtin; refine Kd.R_append k33 (w0 := w) w.heap.size rfl (.tmp 27) (.tmp 29) 22 33 (.agg #[(.int .i64 0), (.int .i64 0), (.int .i64 0), (.int .i64 0), (.int .i64 0), (.int .i64 0), (.int .i64 0), (.int .i64 0)]) 64 rfl Tryd.underlying22 info33 rfl (by decide) (by omega) u3 (rowFrom 0 (l.take i)) (rowE i x) [.int .i64 x.f0, .int .i64 x.f1, .int .i64 x.f2, .int .i64 x.f3, .int .i64 (2 * (i : Int)), .int .i64 (2 * (i : Int) + 1), .int .i64 x.f6.f0, .int .i64 x.f6.f1] (fun _ => True) (fun _ => False) rfl (by first | (go_simp; done) | (go_simp; rfl)) (k33_mkM _ _ _ (rowE i x)) (fun _ hk => hk.elim) (fun _ _ => trivial) HOd.out HBd.out HBd.out.size ?aL ?_; (case aL => (rw [rowFrom_len, List.length_take]; omega)); intro v1 w1 ho hb _ _)
        go_roundg (gk - 1)
        case measure => omega
        case rel =>
          refine ⟨i + 1, by go_num, by omega, by omega, by omega, ⟨?_⟩, ⟨hb⟩⟩
          rw [HNX.out, ← HX.out]; exact ho
      · have h12' : decide ((i : Int) < 12) = false := decide_eq_false (by omega)
        have HE : rowFrom 0 (l.take i) = rowOf l := by obtain rfl : i = 12 := by omega
                                                       rfl
        rw [HE] at HO
        go_wp2
        go_ret
        exact ⟨_, rfl, HO.out, HBv.out⟩
    · have hlt' : decide ((i : Int) < (l.length : Int)) = false := decide_eq_false (by omega)
      have HE : rowFrom 0 (l.take i) = rowOf l := by
        obtain rfl : i = l.length := by omega
        unfold rowOf
        rw [List.take_length, List.take_of_length_le (by omega)]
      rw [HE] at HO
      go_wp2
      go_ret
      exact ⟨_, rfl, HO.out, HBv.out⟩


instance : DecidableEq S31 := fun a b => decidable_of_iff (a.f0 = b.f0 ∧ a.f1 = b.f1) ⟨fun h => s31_ext h.1 h.2, fun h => by rw [h]; exact ⟨rfl, rfl⟩⟩
def pk1 (e : S33) (p : Bool × List Int) (x : S79) : Bool × List Int := if p.1 = false ∧ x.f0 = e.f6 then (true, x.f1) else p
/-- The first way that has the answer, and its state. -/
def pk (e : S33) (s : List Int) (ws : List S79) : Bool × List Int := ws.foldl (pk1 e) (false, s)
theorem pk_true (e : S33) (t : List Int) : ∀ ws : List S79, ws.foldl (pk1 e) (true, t) = (true, t)
  | [] => rfl
  | x :: ws => by
    rw [List.foldl_cons]
    show ws.foldl (pk1 e) (pk1 e (true, t) x) = _
    rw [show pk1 e (true, t) x = (true, t) from by unfold pk1; rw [if_neg (by simp)]]
    exact pk_true e t ws
theorem pk_spec (e : S33) (s : List Int) : ∀ ws : List S79, ((pk e s ws).1 = true ∧ ∃ x ∈ ws, x.f0 = e.f6 ∧ (pk e s ws).2 = x.f1) ∨ ((pk e s ws).1 = false ∧ (∀ x ∈ ws, x.f0 ≠ e.f6) ∧ (pk e s ws).2 = s)
  | [] => .inr ⟨rfl, by simp, rfl⟩
  | x :: ws => by
    by_cases h : x.f0 = e.f6
    · have : pk e s (x :: ws) = (true, x.f1) := by
        unfold pk
        rw [List.foldl_cons, show pk1 e (false, s) x = (true, x.f1) from by unfold pk1; rw [if_pos ⟨rfl, h⟩]]
        exact pk_true e x.f1 ws
      rw [this]
      exact .inl ⟨rfl, x, by simp, h, rfl⟩
    · have : pk e s (x :: ws) = pk e s ws := by
        unfold pk
        rw [List.foldl_cons, show pk1 e (false, s) x = (false, s) from by unfold pk1; rw [if_neg (fun k => h k.2)]]
      rw [this]
      rcases pk_spec e s ws with ⟨h1, y, hy, h2, h3⟩ | ⟨h1, h2, h3⟩
      · exact .inl ⟨h1, y, by simp [hy], h2, h3⟩
      · exact .inr ⟨h1, fun y hy => by rcases List.mem_cons.1 hy with rfl | hy; exact h; exact h2 y hy, h3⟩
def greedy (n : Int) : List S33 → List Int → Bool
  | [], _ => true
  | e :: m, s => (pk e s (waysOf n s e)).1 && greedy n m (pk e s (waysOf n s e)).2
theorem ways_shape {n : Int} (h1 : n ≠ 1) (s : List Int) (e : S33) : waysOf n s e = [] ∨ (∃ a, waysOf n s e = [a]) ∨ ∃ t u, waysOf n s e = [W 0 0 t, W 80 0 u] := by
  unfold waysOf
  rw [if_neg h1]
  split
  · unfold wStack
    split
    · exact .inr (.inr ⟨_, _, rfl⟩)
    · split
      · split
        · exact .inr (.inl ⟨_, rfl⟩)
        · exact .inr (.inl ⟨_, rfl⟩)
      · exact .inl rfl
  · split
    · unfold wCounter
      split
      · exact .inr (.inl ⟨_, rfl⟩)
      · split
        · exact .inr (.inl ⟨_, rfl⟩)
        · exact .inl rfl
    · split
      · unfold wLatch
        split
        · split
          · exact .inr (.inl ⟨_, rfl⟩)
          · exact .inr (.inl ⟨_, rfl⟩)
        · split
          · exact .inr (.inl ⟨_, rfl⟩)
          · exact .inl rfl
      · split
        · unfold wOnces
          split
          · exact .inl rfl
          · exact .inr (.inl ⟨_, rfl⟩)
        · exact .inl rfl
theorem ways_one {n : Int} (h1 : n ≠ 1) (s : List Int) (e : S33) {x y : S79} (hx : x ∈ waysOf n s e) (hy : y ∈ waysOf n s e) (h : x.f0 = y.f0) : x = y := by
  rcases ways_shape h1 s e with hw | ⟨a, hw⟩ | ⟨t, u, hw⟩ <;> rw [hw] at hx hy
  · cases hx
  · simp at hx hy; rw [hx, hy]
  · simp at hx hy
    rcases hx with rfl | rfl <;> rcases hy with rfl | rfl
    · rfl
    · simp [W] at h
    · simp [W] at h
    · rfl
theorem greedy_gm {n : Int} (h1 : n ≠ 1) : ∀ (l : List S33) (s : List Int), Seq l → (greedy n l s = true ↔ Gm n l s)
  | [], s, _ => ⟨fun _ => Gm.nil n s, fun _ => rfl⟩
  | e :: m, s, h => by
    rw [gm_seq h]
    have ih := fun t => greedy_gm h1 m t h.2.2.2
    simp only [greedy, Bool.and_eq_true]
    rcases pk_spec e s (waysOf n s e) with ⟨p1, y, hy, h2, h3⟩ | ⟨p1, h2, h3⟩
    · rw [p1, h3, ih]
      constructor
      · rintro ⟨_, hg⟩; exact ⟨y, hy, h2, hg⟩
      · rintro ⟨x, hx, hxe, hg⟩
        rw [ways_one h1 s e hx hy (hxe.trans h2.symm)] at hg
        exact ⟨rfl, hg⟩
    · rw [p1]
      constructor
      · rintro ⟨hh, _⟩; cases hh
      · rintro ⟨x, hx, hxe, _⟩; exact absurd hxe (h2 x hx)
theorem f6_eta (e : S33) (a b : Int) : e.f6 = ⟨a, b⟩ ↔ (e.f6.f0 == a && e.f6.f1 == b) = true := by
  rw [Bool.and_eq_true, beq_iff_eq, beq_iff_eq]
  exact ⟨fun h => by rw [h]; exact ⟨rfl, rfl⟩, fun h => s31_ext h.1 h.2⟩
theorem adder_step (e : S33) (x : Int) (Q : List Int → Prop) : (∃ y ∈ wAdder [x] e, y.f0 = e.f6 ∧ Q y.f1) ↔ ∃ z ∈ add1 e x ++ add2 e x, Q [z] := by
  have hr : rd [x] 0 = x := rfl
  unfold wAdder add1 add2 p1 p2
  rw [hr]
  have c1 : ((⟨0, x⟩ : S31) = e.f6) ↔ (e.f6.f0 == 0 && e.f6.f1 == x) = true := eq_comm.trans (f6_eta e 0 x)
  have c2 : ((⟨0, -1⟩ : S31) = e.f6) ↔ (e.f6.f0 == 0 && e.f6.f1 == -1) = true := eq_comm.trans (f6_eta e 0 (-1))
  by_cases o1 : e.f1 = 1
  · have o2 : (e.f1 == 2) = false := by rw [o1]; rfl
    have o1' : (e.f1 == 1) = true := by rw [o1]; rfl
    rw [if_pos o1, o2, o1']
    by_cases hB : (e.f6.f0 == 0 && e.f6.f1 == x) = true
    · simp only [hB, W, c1.2 hB]; simp
    · simp only [Bool.eq_false_iff.2 hB, W]; simp [mt c1.1 hB]
  · have o1' : (e.f1 == 1) = false := beq_eq_false_iff_ne.2 o1
    rw [if_neg o1, o1']
    by_cases o2 : e.f1 = 2
    · have o2' : (e.f1 == 2) = true := by rw [o2]; rfl
      rw [if_pos o2, o2']
      by_cases hB : (e.f6.f0 == 0 && e.f6.f1 == x) = true
      · by_cases hD : (e.f6.f0 == 0 && e.f6.f1 == -1) = true
        · simp only [hB, hD, W]; simp [c1.2 hB, c2.2 hD]
        · simp only [hB, Bool.eq_false_iff.2 hD, W]; simp [c1.2 hB, mt c2.1 hD]
      · by_cases hD : (e.f6.f0 == 0 && e.f6.f1 == -1) = true
        · simp only [Bool.eq_false_iff.2 hB, hD, W]; simp [mt c1.1 hB, c2.2 hD]
        · simp only [Bool.eq_false_iff.2 hB, Bool.eq_false_iff.2 hD, W]; simp [mt c1.1 hB, mt c2.1 hD]
    · have o2' : (e.f1 == 2) = false := beq_eq_false_iff_ne.2 o2
      rw [if_neg o2, o2']
      simp
theorem addTo_mem (e : S33) (z : Int) : ∀ S : List Int, z ∈ addTo e S ↔ ∃ x ∈ S, z ∈ add1 e x ++ add2 e x
  | [] => by simp [addTo]
  | x :: S => by
    rw [addTo, List.mem_append, addTo_mem e z S]
    simp
theorem addAll_gm : ∀ (l : List S33) (S : List Int), Seq l → (addAll l S ≠ [] ↔ ∃ x ∈ S, Gm 1 l [x])
  | [], S, _ => by
    simp only [addAll]
    constructor
    · intro h
      obtain ⟨x, hx⟩ := List.exists_mem_of_ne_nil S h
      exact ⟨x, hx, Gm.nil 1 _⟩
    · rintro ⟨x, hx, _⟩ rfl; cases hx
  | e :: m, S, h => by
    simp only [addAll]
    rw [addAll_gm m (addTo e S) h.2.2.2]
    have hw : ∀ x, waysOf 1 [x] e = wAdder [x] e := fun x => by unfold waysOf; rw [if_pos rfl]
    constructor
    · rintro ⟨z, hz, hg⟩
      obtain ⟨x, hx, hz⟩ := (addTo_mem e z S).1 hz
      refine ⟨x, hx, (gm_seq h).2 ?_⟩
      rw [hw]
      exact (adder_step e x (fun t => Gm 1 m t)).2 ⟨z, hz, hg⟩
    · rintro ⟨x, hx, hg⟩
      rw [gm_seq h, hw] at hg
      obtain ⟨z, hz, hg⟩ := (adder_step e x (fun t => Gm 1 m t)).1 hg
      exact ⟨z, (addTo_mem e z S).2 ⟨x, hx, hz⟩, hg⟩
/-- What HistoryRow reckons. -/
def goodOf (n start : Int) (l : List S33) : Bool := if n = 1 then decide (0 < (addAll l [start]).length) else greedy n l (state0 n start)
theorem good_gm {n start : Int} {l : List S33} (hb : Begun n start) (h : Seq l) : goodOf n start l = true ↔ Gm n l (state0 n start) := by
  unfold goodOf
  by_cases h1 : n = 1
  · rw [if_pos h1, decide_eq_true_iff, List.length_pos_iff, addAll_gm l [start] h]
    subst h1
    have : state0 1 start = [start] := by unfold state0; simp
    rw [this]
    constructor
    · rintro ⟨x, hx, hg⟩
      simp at hx; subst hx; exact hg
    · intro hg; exact ⟨start, by simp, hg⟩
  · rw [if_neg h1]
    exact greedy_gm h1 l _ h
open Classical in
theorem lin_row {n start : Int} {l m : List S33} (hb : Begun n start) (hm : m.Perm (rowOf l)) : linOf n start m = (goodOf n start (rowOf l), 0) := by
  rw [← lin_perm hm.symm]
  unfold linOf
  have hr : rightP (rowOf l) := right_row (l.take 12) 0
  have hs : Seq (rowOf l) := seq_row (l.take 12) 0
  rw [if_neg (not_not_intro hb), if_neg (by have := rowOf_len l; omega), if_neg (not_not_intro hr)]
  have hg := good_gm (n := n) (start := start) hb hs
  have : decide (Gs n (rowOf l) 0 (state0 n start)) = goodOf n start (rowOf l) := by
    rw [Bool.eq_iff_iff, hg, decide_eq_true_iff, gs_list]
  rw [← this]


/-! ### a row whose field is written -/
structure Row33 (w : World) (g N : Nat) (l : List S33) : Prop where
  pre : Pre33 w g N l
  le : l.length ≤ N
  max : N ≤ maxLen
theorem flat_of_reps {w : World} {base : Nat} {ok : Nat → Prop} : ∀ {l : List S33} {inner : List Value}, Reps (k33.M w base ok) 8 l inner → inner = flat33 l
  | [], inner, h => by have := h.1; simp at this; rw [this]; rfl
  | e :: l, inner, h => by
    have hl := h.1
    simp only [List.length_cons] at hl
    have h0 := k33_openM (h.2 0 e rfl)
    have ht : Reps (k33.M w base ok) 8 l (inner.drop 8) := by
      refine ⟨by simp; omega, fun j p hp => ?_⟩
      have := h.2 (j + 1) p (by simpa using hp)
      rw [List.drop_drop]
      rwa [show (j + 1) * 8 = 8 + j * 8 by omega] at this
    have := flat_of_reps ht
    have e1 : inner = inner.take 8 ++ inner.drop 8 := (List.take_append_drop 8 inner).symm
    rw [e1, this]
    have e2 : inner.take 8 = cs33 e := by rw [Nat.zero_mul, List.drop_zero] at h0; exact h0
    rw [e2]
    rfl
theorem Row33.of {w : World} {base g c n : Nat} {ok : Nat → Prop} {l : List S33} (h : Kd.R k33 33 w base ok (.slice (some ⟨g, 0, none⟩) n c) l) : Row33 w g c l := by
  obtain ⟨_, inner, ⟨h1, h2⟩, h3⟩ := h
  rcases h2 with ⟨h2, _⟩ | ⟨g', cap, cur, e, _, hb, hc, hm, hs, ht⟩
  · cases h2
  · injection e with e1 e2 e3
    injection e1 with e1
    injection e1 with e1
    subst e1 e3
    exact ⟨⟨⟨cur, hb, hs, by rw [← flat_of_reps h3]; exact ht⟩⟩, hc, hm⟩
theorem flat33_set : ∀ (l : List S33) (i j : Nat) (e e' : S33) (v : Value), l[i]? = some e → j < 8 → cs33 e' = (cs33 e).set j v → flat33 (l.set i e') = (flat33 l).set (i * 8 + j) v
  | [], i, j, e, e', v, h, _, _ => by simp at h
  | x :: l, 0, j, e, e', v, h, hj, hc => by
    simp at h; subst h
    show cs33 e' ++ flat33 l = (cs33 x ++ flat33 l).set (0 * 8 + j) v
    rw [hc, Nat.zero_mul, Nat.zero_add, List.set_append_left _ _ (by simpa [cs33] using hj)]
  | x :: l, i + 1, j, e, e', v, h, hj, hc => by
    have ih := flat33_set l i j e e' v (by simpa using h) hj hc
    show cs33 x ++ flat33 (l.set i e') = (cs33 x ++ flat33 l).set ((i + 1) * 8 + j) v
    rw [ih, List.set_append_right _ _ (by simp [cs33]; omega)]
    congr 2
    simp [cs33]; omega
theorem Row33.put {w : World} {g N : Nat} {l : List S33} (h : Row33 w g N l) (i j : Nat) (e e' : S33) (v : Value) (hi : l[i]? = some e) (hj : j < 8) (hc : cs33 e' = (cs33 e).set j v) : Row33 (w.setCell ⟨g, i * 8 + j, none⟩ v) g N (l.set i e') := by
  obtain ⟨cur, h1, h2, h3⟩ := h.pre.out
  refine ⟨⟨⟨cur.setIfInBounds (i * 8 + j) v, ?_, by simpa using h2, ?_⟩⟩, by simpa using h.le, h.max⟩
  · rw [setCell_eq_setRow w g _ cur 33 (0, 0) v h1]
    exact setRow_heap w g cur _ 33 _ h1
  · rw [Array.toList_setIfInBounds, List.length_set, List.take_set, h3, flat33_set l i j e e' v hi hj hc]
theorem Row33.row {w : World} {g N base : Nat} {l : List S33} (h : Row33 w g N l) (hg : base ≤ g) : Kd.R k33 33 w base (fun _ => True) (.slice (some ⟨g, 0, none⟩) l.length N) l := h.pre.row h.le h.max hg
theorem Row33.below {w w' : World} {g N : Nat} {l : List S33} (h : Row33 w g N l) (hb : Below w.heap.size w w') : Row33 w' g N l := by
  obtain ⟨cur, h1, h2, h3⟩ := h.pre.out
  exact ⟨⟨⟨cur, blk_below h1 hb, h2, h3⟩⟩, h.le, h.max⟩



theorem first_some {n start : Int} (h : Begun n start) : butlerref03_First.f n start = some (state0 n start) := by
  unfold butlerref03_First.f state0
  split
  · rfl
  · split
    · rename_i h2 h5
      have hs : 1 ≤ start ∧ start ≤ 1000 := by rcases h with h | h | h | h | h <;> omega
      have hw : wrap64 (3 * start) = 3 * start := wrap_i64 (by unfold I64; omega)
      rw [hw, if_pos (by omega), if_pos (by omega)]
      congr 2; omega
    · rfl
theorem flags0 {n start : Int} (h : Begun n start) : Flags n start (state0 n start) := by
  rintro rfl
  have hs : 1 ≤ start ∧ start ≤ 1000 := by rcases h with h | h | h | h | h <;> omega
  have e : state0 5 start = List.replicate (3 * start.toNat) 0 := by unfold state0; simp
  rw [e]
  refine ⟨by simp, fun k => .inl ?_⟩
  unfold rd
  rw [List.getD_eq_getElem?_getD]
  rcases Nat.lt_or_ge ((3 * k : Nat) : Int).toNat (3 * start.toNat) with h | h
  · rw [List.getElem?_eq_getElem (by simpa using h)]; simp
  · rw [List.getElem?_eq_none (by simpa using h)]; rfl
theorem flags_next {n start : Int} {s : List Int} {m : Nat} {e : S33} (h : Flags n start s) (hs : Sok n m s) {x : S79} (hx : x ∈ waysOf n s e) : Flags n start x.f1 := by
  rintro rfl
  obtain ⟨f1, f2⟩ := h rfl
  obtain ⟨q, hq, q1, q2⟩ := hs.five rfl
  unfold waysOf at hx
  simp only [show ¬ ((5 : Int) = 1) by decide, show ¬ ((5 : Int) = 2) by decide, show ¬ ((5 : Int) = 3) by decide, show ¬ ((5 : Int) = 4) by decide, if_true, if_false] at hx
  unfold wOnces at hx
  split at hx
  · cases hx
  · rename_i c v hcv
    simp at hx; subst hx
    obtain ⟨ka, kb⟩ := once_at hq q1 e
    simp only [W]
    unfold onceNext
    split
    · refine ⟨by simpa using f1, fun k => ?_⟩
      unfold rd
      rw [Int.toNat_natCast, List.getD_eq_getElem?_getD, List.getElem?_set_ne (by omega), List.getElem?_set_ne (by omega)]
      by_cases hk : onceAt s e = 3 * k
      · rw [hk, List.getElem?_set_self (by omega)]; right; rfl
      · rw [List.getElem?_set_ne hk]
        have := f2 k
        unfold rd at this
        rw [Int.toNat_natCast, List.getD_eq_getElem?_getD] at this
        exact this
    · exact ⟨f1, f2⟩
/-- A way in memory. -/
theorem WaysAt.at {w : World} {ok : Nat → Prop} {v : Value} {ws : List S79} (h : WaysAt w ok v ws) : ∃ g A c, v = .slice A ws.length c ∧ ws.length ≤ 2 ∧ (ws ≠ [] → A = some ⟨g, 0, none⟩ ∧ g < w.heap.size) ∧ ∀ (k : Nat) (hk : k < ws.length), ∃ B d, w.cell? ⟨g, k * 3, none⟩ = some (.int .i64 ws[k].f0.f0) ∧ w.cell? ⟨g, k * 3 + 1, none⟩ = some (.int .i64 ws[k].f0.f1) ∧
    w.cell? ⟨g, k * 3 + 2, none⟩ = some (.slice B ws[k].f1.length d) ∧ Kd.V (Kd.int .i64) 3 w 0 ok (.slice B ws[k].f1.length d) ws[k].f1 := by
  match ws, h with
  | [], h => exact ⟨0, none, 0, h, by simp, by simp, fun k hk => by simp at hk⟩
  | [x], ⟨g, A, c, h1, h2, h3, h4⟩ =>
    refine ⟨g, _, _, h1, by simp, fun _ => ⟨rfl, blk_lt h3⟩, fun k hk => ?_⟩
    obtain rfl : k = 0 := by simp at hk; exact hk
    exact ⟨A, c, (blk_cell h3 0).trans rfl, (blk_cell h3 1).trans rfl, (blk_cell h3 2).trans rfl, h4⟩
  | [x, y], ⟨g, A, c, B, d, h1, h2, h3, h4, h5⟩ =>
    refine ⟨g, _, _, h1, by simp, fun _ => ⟨rfl, blk_lt h3⟩, fun k hk => ?_⟩
    have : k = 0 ∨ k = 1 := by simp at hk; omega
    rcases this with rfl | rfl
    · exact ⟨A, c, (blk_cell h3 0).trans rfl, (blk_cell h3 1).trans rfl, (blk_cell h3 2).trans rfl, h4⟩
    · exact ⟨B, d, (blk_cell h3 3).trans rfl, (blk_cell h3 4).trans rfl, (blk_cell h3 5).trans rfl, h5⟩
theorem pk_next (e : S33) (s : List Int) (ws : List S79) {k : Nat} (hk : k < ws.length) : pk e s (ws.take (k + 1)) = pk1 e (pk e s (ws.take k)) ws[k] := by
  rw [List.take_succ_eq_append_getElem hk]
  unfold pk
  rw [List.foldl_append]; rfl
theorem flat33_get2 (w : World) (l : List S33) {i j : Nat} (hi : i < l.length) (hj : j < 8) : (flat33 l)[i * 8 + j]? = (cs33 (rd_T33 l (i : Int)))[j]? := by
  have h := k33_openM ((flat33_reps w 0 (fun _ => True) l).2 i _ (List.getElem?_eq_getElem hi))
  rw [rd33_eq l hi]
  show _ = (cs33 l[i])[j]?
  rw [show cs33 l[i] = ((flat33 l).drop (i * 8)).take 8 from h.symm, List.getElem?_take_of_lt hj, List.getElem?_drop]
theorem Row33.at2 {w : World} {g N : Nat} {l : List S33} (h : Row33 w g N l) {i j : Nat} (hi : i < l.length) (hj : j < 8) {v : Value} (hv : (cs33 (rd_T33 l (i : Int)))[j]? = some v) : w.cell? ⟨g, i * 8 + j, none⟩ = some v ∧ w.frozen? ⟨g, i * 8 + j, none⟩ = false := by
  obtain ⟨cur, h1, h2, h3⟩ := h.pre.out
  refine ⟨?_, blk_frozen h1 _⟩
  rw [blk_cell h1, ← hv, ← flat33_get2 w l hi hj, ← h3, List.getElem?_take_of_lt (by omega), Array.getElem?_toList]
/-- The eight cells of an event. -/
theorem Row33.cells {w : World} {g N : Nat} {l : List S33} (h : Row33 w g N l) {i : Nat} (hi : i < l.length) {y : S33} (hy : rd_T33 l (i : Int) = y) :
    (w.cell? ⟨g, i * 8, none⟩ = some (.int .i64 y.f0) ∧ w.cell? ⟨g, i * 8 + 1, none⟩ = some (.int .i64 y.f1) ∧ w.cell? ⟨g, i * 8 + 2, none⟩ = some (.int .i64 y.f2) ∧ w.cell? ⟨g, i * 8 + 3, none⟩ = some (.int .i64 y.f3) ∧ w.cell? ⟨g, i * 8 + 4, none⟩ = some (.int .i64 y.f4) ∧ w.cell? ⟨g, i * 8 + 5, none⟩ = some (.int .i64 y.f5) ∧ w.cell? ⟨g, i * 8 + 6, none⟩ = some (.int .i64 y.f6.f0) ∧ w.cell? ⟨g, i * 8 + 7, none⟩ = some (.int .i64 y.f6.f1)) ∧
    (w.frozen? ⟨g, i * 8, none⟩ = false ∧ w.frozen? ⟨g, i * 8 + 1, none⟩ = false ∧ w.frozen? ⟨g, i * 8 + 2, none⟩ = false ∧ w.frozen? ⟨g, i * 8 + 3, none⟩ = false ∧ w.frozen? ⟨g, i * 8 + 4, none⟩ = false ∧ w.frozen? ⟨g, i * 8 + 5, none⟩ = false ∧ w.frozen? ⟨g, i * 8 + 6, none⟩ = false ∧ w.frozen? ⟨g, i * 8 + 7, none⟩ = false) := by
  subst hy
  have a := fun (j : Nat) (hj : j < 8) (v : Value) (hv : (cs33 (rd_T33 l (i : Int)))[j]? = some v) => h.at2 hi hj hv
  have a0 := a 0 (by decide) _ rfl
  have a1 := a 1 (by decide) _ rfl
  have a2 := a 2 (by decide) _ rfl
  have a3 := a 3 (by decide) _ rfl
  have a4 := a 4 (by decide) _ rfl
  have a5 := a 5 (by decide) _ rfl
  have a6 := a 6 (by decide) _ rfl
  have a7 := a 7 (by decide) _ rfl
  exact ⟨⟨a0.1, a1.1, a2.1, a3.1, a4.1, a5.1, a6.1, a7.1⟩, ⟨a0.2, a1.2, a2.2, a3.2, a4.2, a5.2, a6.2, a7.2⟩⟩
theorem Row33.store8 {w : World} {g N : Nat} {l : List S33} (h : Row33 w g N l) (i : Nat) (hi : i < l.length) (y : S33) :
    Row33 ((((((((w.setCell ⟨g, i * 8, none⟩ (.int .i64 y.f0)).setCell ⟨g, i * 8 + 1, none⟩ (.int .i64 y.f1)).setCell ⟨g, i * 8 + 2, none⟩ (.int .i64 y.f2)).setCell ⟨g, i * 8 + 3, none⟩ (.int .i64 y.f3)).setCell ⟨g, i * 8 + 4, none⟩ (.int .i64 y.f4)).setCell ⟨g, i * 8 + 5, none⟩ (.int .i64 y.f5)).setCell ⟨g, i * 8 + 6, none⟩ (.int .i64 y.f6.f0)).setCell ⟨g, i * 8 + 7, none⟩ (.int .i64 y.f6.f1)) g N (l.set i y) := by
  obtain ⟨e, he⟩ : ∃ e, l[i]? = some e := ⟨_, List.getElem?_eq_getElem hi⟩
  have h1 := Row33.put h i 0 e ⟨y.f0, e.f1, e.f2, e.f3, e.f4, e.f5, ⟨e.f6.f0, e.f6.f1⟩⟩ (.int .i64 y.f0) he (by decide) rfl
  have h2 := Row33.put h1 i 1 ⟨y.f0, e.f1, e.f2, e.f3, e.f4, e.f5, ⟨e.f6.f0, e.f6.f1⟩⟩ ⟨y.f0, y.f1, e.f2, e.f3, e.f4, e.f5, ⟨e.f6.f0, e.f6.f1⟩⟩ (.int .i64 y.f1) (by rw [List.getElem?_set_self hi]) (by decide) rfl
  rw [List.set_set] at h2
  have h3 := Row33.put h2 i 2 ⟨y.f0, y.f1, e.f2, e.f3, e.f4, e.f5, ⟨e.f6.f0, e.f6.f1⟩⟩ ⟨y.f0, y.f1, y.f2, e.f3, e.f4, e.f5, ⟨e.f6.f0, e.f6.f1⟩⟩ (.int .i64 y.f2) (by rw [List.getElem?_set_self hi]) (by decide) rfl
  rw [List.set_set] at h3
  have h4 := Row33.put h3 i 3 ⟨y.f0, y.f1, y.f2, e.f3, e.f4, e.f5, ⟨e.f6.f0, e.f6.f1⟩⟩ ⟨y.f0, y.f1, y.f2, y.f3, e.f4, e.f5, ⟨e.f6.f0, e.f6.f1⟩⟩ (.int .i64 y.f3) (by rw [List.getElem?_set_self hi]) (by decide) rfl
  rw [List.set_set] at h4
  have h5 := Row33.put h4 i 4 ⟨y.f0, y.f1, y.f2, y.f3, e.f4, e.f5, ⟨e.f6.f0, e.f6.f1⟩⟩ ⟨y.f0, y.f1, y.f2, y.f3, y.f4, e.f5, ⟨e.f6.f0, e.f6.f1⟩⟩ (.int .i64 y.f4) (by rw [List.getElem?_set_self hi]) (by decide) rfl
  rw [List.set_set] at h5
  have h6 := Row33.put h5 i 5 ⟨y.f0, y.f1, y.f2, y.f3, y.f4, e.f5, ⟨e.f6.f0, e.f6.f1⟩⟩ ⟨y.f0, y.f1, y.f2, y.f3, y.f4, y.f5, ⟨e.f6.f0, e.f6.f1⟩⟩ (.int .i64 y.f5) (by rw [List.getElem?_set_self hi]) (by decide) rfl
  rw [List.set_set] at h6
  have h7 := Row33.put h6 i 6 ⟨y.f0, y.f1, y.f2, y.f3, y.f4, y.f5, ⟨e.f6.f0, e.f6.f1⟩⟩ ⟨y.f0, y.f1, y.f2, y.f3, y.f4, y.f5, ⟨y.f6.f0, e.f6.f1⟩⟩ (.int .i64 y.f6.f0) (by rw [List.getElem?_set_self hi]) (by decide) rfl
  rw [List.set_set] at h7
  have h8 := Row33.put h7 i 7 ⟨y.f0, y.f1, y.f2, y.f3, y.f4, y.f5, ⟨y.f6.f0, e.f6.f1⟩⟩ ⟨y.f0, y.f1, y.f2, y.f3, y.f4, y.f5, ⟨y.f6.f0, y.f6.f1⟩⟩ (.int .i64 y.f6.f1) (by rw [List.getElem?_set_self hi]) (by decide) rfl
  rw [List.set_set] at h8
  exact h8
theorem swap_perm (l : List S33) {j : Nat} (hj : j < l.length) : ((l.set 0 l[j]).set j (l[0]'(by omega))).Perm l := List.set_set_perm (by omega) hj
set_option maxHeartbeats 16000000 in
set_option maxRecDepth 100000 in
theorem histrow_calls (a0 a1 : Int) (A2 : Option Addr) (c2 : Nat) (l : List S33) (A3 : Option Addr) (c3 : Nat) (t : List Int) (w : World) (htab : Tab w) (hC : Kd.C k33 w A2 l.length l) (hc : l.length ≤ c2) (hT : Kd.C (Kd.int .i64) w A3 t.length t) (h1 : I64 a1) (hn : Nums l) :
    Calls Tryd.prog 5 #[.int .i64 a0, .int .i64 a1, .slice A2 l.length c2, .slice A3 t.length c3] w fun e w' => e = .returned (.bool true) ∧ Below w.heap.size w w' := by
  have hnr : Nums (rowOf l) := nums_row (nums_take hn 12) 0
  have HLIN : Aside0 (∀ (m : List S33), m.Perm (rowOf l) → ∀ p1 p2, linOf a0 a1 (rowOf l) = (p1, p2) → history_Linear.f a0 a1 m = some (p1, p2)) := ⟨fun m hm p1 p2 hp => by
    unfold history_Linear.f
    rw [if_pos ⟨h1, fun e he => hnr e (hm.mem_iff.1 he)⟩, ← hp, lin_perm hm]⟩
  obtain ⟨p1, p2, hp⟩ : ∃ p1 p2, linOf a0 a1 (rowOf l) = (p1, p2) := ⟨_, _, rfl⟩
  have HT := Aside0.mk htab
  have HC := Aside0.mk hC
  have HCc := Aside0.mk hc
  have HTT := Aside0.mk hT
  have HN := Aside0.mk hnr
  have HI := Aside0.mk h1
  have HL1 := Aside0.mk (HLIN.out _ (List.Perm.refl _) p1 p2 hp)
  have HP := Aside0.mk hp
  clear htab hC hc hT h1 hn hp hnr
  have HB := Aside0.mk (Below.refl w.heap.size w)
  go_enter Tryd.func5, Tryd.ntmps5
  go_upto_region 4 with (first
    | (go_at_call 7; (with_reducible refine (butlerlaw03_awake.calls true _ (HT.out.below HB.out) rfl).mono ?_); rintro e wa ⟨rfl, hb⟩; have n_ := Aside0.mk (below_then HB.out HB.out.size hb); clear HB; have HB := n_; clear n_ hb)
    | (go_at_call 18; (with_reducible refine (row_calls _ _ l _ (Kd.C_below HC.out HB.out) HCc.out).mono ?_); rintro e wr ⟨vr, rfl, hR, hb⟩; obtain ⟨Ar, cr, er⟩ := Kd.R_slice hR; subst er; have HR := Aside0.mk (Kd.R_lower hR HB.out.size); have n_ := Aside0.mk (below_then HB.out HB.out.size hb); clear HB; have HB := n_; clear n_ hb hR)
    | (go_at_call 10; (with_reducible refine (history_Linear.calls a0 a1 Ar cr (rowOf l) p1 p2 _ (HT.out.below HB.out) (Kd.R_reads' HR.out).2.2 (Kd.R_reads' HR.out).2.1 HL1.out).mono ?_); rintro e wc ⟨rfl, hb⟩; have m_ := Aside0.mk (Kd.R_below HR.out hb); have n_ := Aside0.mk (below_then HB.out HB.out.size hb); clear HB HR; have HB := n_; have HR := m_; clear n_ m_ hb))
  by_cases hbe : Begun a0 a1
  · have hlr := lin_row hbe (List.Perm.refl (rowOf l))
    have hpp : p1 = goodOf a0 a1 (rowOf l) ∧ p2 = 0 := by rw [HP.out] at hlr; exact ⟨congrArg Prod.fst hlr, congrArg Prod.snd hlr⟩
    obtain ⟨hg1, rfl⟩ := hpp
    have HG1 := Aside0.mk hg1
    have HBE := Aside0.mk hbe
    have HF := Aside0.mk (first_some hbe)
    have HFL := Aside0.mk (flags0 hbe)
    have HSO := Aside0.mk (state0_ok hbe HI.out (m := 12) (Nat.le_refl _))
    have hrl := rowOf_len l
    clear hlr hg1 hbe
    obtain ⟨r, hr⟩ : ∃ r, r = rowOf l := ⟨_, rfl⟩
    rw [← hr] at HR HL1 HP HG1 HLIN HN hrl
    rw [← hr]
    have HRO := Aside0.mk hr
    clear hr
    go_upto_block 0 with (go_at_call 19; (with_reducible refine (butlerref03_First.calls a0 a1 (state0 a0 a1) _ HF.out).mono ?_); rintro e wf ⟨vf, rfl, hRf, hb⟩; have HVF := Aside0.mk (Kd.V_mono (Kd.R_V (base' := 0) hRf) (fun _ _ => trivial)); have m_ := Aside0.mk (Kd.R_below HR.out hb); have n_ := Aside0.mk (below_then HB.out HB.out.size hb); clear HB HR; have HB := n_; have HR := m_; clear n_ m_ hb hRf)
    go_cut [14] (fun v14 wx => v14 = .bool (greedy a0 r (state0 a0 a1)) ∧ Aside0 (Kd.R k33 33 wx w.heap.size (fun _ => True) (.slice Ar r.length cr) r) ∧ Aside0 (Below w.heap.size w wx))
    case first =>
      go_wp2
      go_loopg [13, 14, 15] 14 (fun gk v13 v14 v15 wr => ∃ (i : Nat) (g : Bool) (s : List Int), v15 = .int .i64 i ∧ v14 = .bool g ∧ i ≤ r.length ∧ r.length - i < gk ∧ Aside0 (Sok a0 (12 - i) s) ∧ Aside0 (Flags a0 a1 s) ∧ Aside0 (Kd.V (Kd.int .i64) 3 wr 0 (fun _ => True) v13 s) ∧ Aside0 (greedy a0 r (state0 a0 a1) = (g && greedy a0 (r.drop i) s)) ∧ Aside0 (Kd.R k33 33 wr w.heap.size (fun _ => True) (.slice Ar r.length cr) r) ∧ Aside0 (Below w.heap.size w wr))
      case atStart => exact ⟨0, true, _, rfl, rfl, by omega, by omega, HSO, HFL, HVF, ⟨by simp⟩, HR, HB⟩
      case round =>
        clear HR HB HVF
        obtain ⟨i, g, s, rfl, rfl, il, hgk, HS, HFg, HV, HGR, HR, HB⟩ := hrel
        by_cases hlt : i < r.length
        · have hlt' : decide ((i : Int) < (r.length : Int)) = true := decide_eq_true (by omega)
          cases g with
          | true =>
            have i12 : i ≤ 12 := by omega
            obtain ⟨As, cs, es⟩ := Kd.V_slice HV.out
            subst es
            obtain ⟨e, he⟩ : ∃ e, e = rd_T33 r (i : Int) := ⟨_, rfl⟩
            obtain ⟨ad, ea, x0, x1, x2, x3, x4, x5, x6, x7⟩ := at_T33 (Kd.R_reads' HR.out).2.2 (i : Int) (by omega) (by omega)
            subst ea
            rw [Int.toNat_natCast, ← he] at x0 x1 x2 x3 x4 x5 x6 x7
            have hmem : e ∈ r := by rw [he, rd33_eq r hlt]; exact List.getElem_mem hlt
            have HDR : Aside0 (greedy a0 (r.drop i) s = ((pk e s (waysOf a0 s e)).1 && greedy a0 (r.drop (i + 1)) (pk e s (waysOf a0 s e)).2)) := ⟨by rw [List.drop_eq_getElem_cons hlt, he, rd33_eq r hlt]; rfl⟩
            have HNE : Aside0 (I64 e.f2 ∧ I64 e.f3) := ⟨HN.out e hmem⟩
            have HWA : Aside0 (∀ W, Below wr.heap.size wr W → Calls Tryd.prog 20 #[.int .i64 a0, .int .i64 a1, .slice As s.length cs, agg33 e] W (WaysPost W (fun _ => True) (waysOf a0 s e))) := ⟨fun W hb => ways_ref a0 a1 (fun _ => True) (12 - i) As cs s e W (Kd.V_below HV.out hb) HS.out HFg.out⟩
            unfold agg33 at HWA
            have HEe := Aside0.mk he
            clear he hmem
            obtain ⟨ws, hws⟩ : ∃ ws, ws = waysOf a0 s e := ⟨_, rfl⟩
            rw [← hws] at HWA HDR
            have HWS := Aside0.mk hws
            clear hws
            go_upto_region 12 with (go_at_call 20; (with_reducible refine (HWA.out _ (Below.refl _ _)).mono ?_); rintro e9 w9 ⟨v9, rfl, hw9, hb⟩; have HW9 := Aside0.mk (WaysAt.mono (ok' := fun _ => True) (fun _ _ => trivial) hw9); have m_ := Aside0.mk (Kd.R_below HR.out hb); have n_ := Aside0.mk (below_then HB.out HB.out.size hb); have v_ := Aside0.mk (Kd.V_below HV.out hb); clear HB HR HV; have HB := n_; have HR := m_; have HV := v_; clear n_ m_ v_ hb hw9)
            obtain ⟨gw, Aw, cw, ew, hw2, hAw, hcells⟩ := HW9.out.at
            subst ew
            have HCE := Aside0.mk hcells
            have HAW := Aside0.mk hAw
            clear hcells hAw x0 x1 x2 x3 x4 x5 x6 x7
            go_wp2
            obtain ⟨go, rfl⟩ : ∃ go : Nat, go = gk := ⟨_, rfl⟩
            go_loopg [13, 14, 17] (ws.length + 1) (fun gj v13 v14 v17 wq => ∃ (k n : Nat), v17 = .int .i64 k ∧ k ≤ ws.length ∧ ws.length - k < gj ∧ v14 = .bool (pk e s (ws.take k)).1 ∧ wq = w9.drewN n ∧ Aside0 (Kd.V (Kd.int .i64) 3 wq 0 (fun _ => True) v13 (pk e s (ws.take k)).2))
            case atStart => exact ⟨0, 0, rfl, by omega, by omega, rfl, rfl, HV⟩
            case round =>
              clear HV
              obtain ⟨k, n, rfl, kl, hgj, rfl, rfl, HV⟩ := hrel
              by_cases hk : k < ws.length
              · have hk' : decide ((k : Int) < (ws.length : Int)) = true := decide_eq_true (by omega)
                have k2 : k ≤ 2 := by omega
                obtain ⟨rfl, hgl⟩ := HAW.out (by intro h; rw [h] at hk; simp at hk)
                obtain ⟨B, d, c0, c1, c2, hVB⟩ := HCE.out k hk
                obtain ⟨_, ea, _, _, _, _, _, _, x6, x7⟩ := at_T33 (Kd.R_reads' HR.out).2.2 (i : Int) (by omega) (by omega)
                cases ea
                rw [Int.toNat_natCast, ← HEe.out] at x6 x7
                have HPN := Aside0.mk (pk_next e s ws hk)
                obtain ⟨y, hy⟩ : ∃ y, y = ws[k] := ⟨_, rfl⟩
                rw [← hy] at c0 c1 c2 hVB HPN
                obtain ⟨⟨b, u⟩, hbu⟩ : ∃ p, p = pk e s (ws.take k) := ⟨_, rfl⟩
                rw [← hbu] at HV HPN
                rw [← hbu]
                have HVB := Aside0.mk hVB
                have il' : (i : Int) < (r.length : Int) := by omega
                have kl' : (k : Int) < (ws.length : Int) := by omega
                clear hy hbu hVB
                obtain ⟨gj, rfl⟩ : ∃ gj : Nat, gj = gk := ⟨_, rfl⟩
                cases hB : (y.f0.f0 == e.f6.f0 && y.f0.f1 == e.f6.f1) with
                | true =>
                  have hye : y.f0 = e.f6 := (s31_ext (by simp only [Bool.and_eq_true, beq_iff_eq] at hB; exact hB.1) (by simp only [Bool.and_eq_true, beq_iff_eq] at hB; exact hB.2))
                  have heq : ∀ (d : Nat) (w : World), (Op.equalIn (d + 2) 31 (.agg #[.int .i64 y.f0.f0, .int .i64 y.f0.f1]) (.agg #[.int .i64 e.f6.f0, .int .i64 e.f6.f1])).run Tryd.prog w = .ok true w := fun d w => by rw [eqA31, hB]
                  cases b with
                  | true =>
                    have HPK : Aside0 (pk e s (ws.take (k + 1)) = (true, u)) := ⟨by rw [HPN.out]; unfold pk1; rw [if_neg (by simp)]⟩
                    clear hB hye
                    go_upto_region 16 with (fail)
                    go_quiet (fail)
                    go_wp2
                    go_roundg (gj - 1)
                    case measure => omega
                    case rel => exact ⟨k + 1, n + nq, by go_num, by omega, by omega, by rw [HPK.out], rfl, ⟨by rw [HPK.out]; exact Kd.V_step HV.out (fun _ _ _ => rfl)⟩⟩
                  | false =>
                    have HPK : Aside0 (pk e s (ws.take (k + 1)) = (true, y.f1)) := ⟨by rw [HPN.out]; unfold pk1; rw [if_pos ⟨rfl, hye⟩]⟩
                    clear hB hye
                    go_upto_region 16 with (fail)
                    go_quiet (fail)
                    go_wp2
                    go_roundg (gj - 1)
                    case measure => omega
                    case rel => exact ⟨k + 1, n + nq, by go_num, by omega, by omega, by rw [HPK.out], rfl, ⟨by rw [HPK.out]; exact Kd.V_step HVB.out (fun _ _ _ => rfl)⟩⟩
                | false =>
                  have HPK : Aside0 (pk e s (ws.take (k + 1)) = (b, u)) := ⟨by
                    rw [HPN.out]; unfold pk1; rw [if_neg]
                    rintro ⟨_, h⟩
                    rw [h] at hB; simp at hB⟩
                  have heq : ∀ (d : Nat) (w : World), (Op.equalIn (d + 2) 31 (.agg #[.int .i64 y.f0.f0, .int .i64 y.f0.f1]) (.agg #[.int .i64 e.f6.f0, .int .i64 e.f6.f1])).run Tryd.prog w = .ok false w := fun d w => by rw [eqA31, hB]
                  clear hB
                  go_upto_region 16 with (fail)
                  go_quiet (fail)
                  go_wp2
                  go_roundg (gj - 1)
                  case measure => omega
                  case rel => exact ⟨k + 1, n + nq, by go_num, by omega, by omega, by rw [HPK.out], rfl, ⟨by rw [HPK.out]; exact Kd.V_step HV.out (fun _ _ _ => rfl)⟩⟩
              · have hk' : decide ((k : Int) < (ws.length : Int)) = false := decide_eq_false (by omega)
                obtain rfl : k = ws.length := by omega
                rw [List.take_length] at HV
                rw [List.take_length]
                obtain ⟨⟨b, u⟩, hbu⟩ : ∃ p, p = pk e s ws := ⟨_, rfl⟩
                rw [← hbu] at HV HDR
                rw [← hbu]
                have HSN : Aside0 (Sok a0 (12 - (i + 1)) u ∧ Flags a0 a1 u) := ⟨by
                  rcases pk_spec e s ws with ⟨q1, y, hy, q2, q3⟩ | ⟨q1, q2, q3⟩
                  · rw [← hbu] at q3
                    simp only at q3
                    subst q3
                    rw [HWS.out] at hy
                    refine ⟨Sok.next (m := 12 - (i + 1)) (by rw [show 12 - (i + 1) + 1 = 12 - i by omega]; exact HS.out) HNE.out.1 HNE.out.2 hy, flags_next HFg.out HS.out hy⟩
                  · rw [← hbu] at q3
                    simp only at q3
                    subst q3
                    have hS := HS.out
                    exact ⟨⟨hS.num, hS.is, hS.one, fun h => by have := hS.two h; omega, hS.four, hS.five⟩, HFg.out⟩⟩
                clear hbu
                go_wp2
                go_roundg (go - 1)
                case measure => omega
                case rel => exact ⟨i + 1, b, u, by go_num, rfl, by omega, by omega, ⟨HSN.out.1⟩, ⟨HSN.out.2⟩, HV, ⟨by rw [HGR.out, HDR.out]; rfl⟩, ⟨Kd.R_drewN HR.out n⟩, ⟨pw_below_drewN HB.out n⟩⟩
          | false =>
            go_wp2
            go_meet
            case rel => exact ⟨by rw [HGR.out]; rfl, HR, HB⟩
        · have hlt' : decide ((i : Int) < (r.length : Int)) = false := decide_eq_false (by omega)
          have HE : Aside0 (greedy a0 r (state0 a0 a1) = g) := ⟨by rw [HGR.out, List.drop_of_length_le (by omega)]; simp [greedy]⟩
          go_wp2
          go_meet
          case rel => exact ⟨by rw [HE.out], HR, HB⟩
    case rest =>
      obtain ⟨rfl, HR, HB⟩ := hcut
      go_upto_if 95 with (fail)
      go_cut [14] (fun v14 wx => v14 = .bool p1 ∧ Aside0 (Kd.R k33 33 wx w.heap.size (fun _ => True) (.slice Ar r.length cr) r) ∧ Aside0 (Below w.heap.size w wx))
      case first =>
        by_cases ha : a0 = 1
        · have ha' : (a0 == 1) = true := beq_iff_eq.mpr ha
          have HG2 : Aside0 (p1 = decide (0 < (addAll r [a1]).length)) := ⟨by rw [HG1.out]; unfold goodOf; rw [if_pos ha]⟩
          clear ha
          go_wp2_with (go_at_call 21; (with_reducible refine (adds_calls a1 Ar cr r _ (Kd.R_reads' HR.out).2.2 (Kd.R_reads' HR.out).2.1 hrl).mono ?_); rintro e wc ⟨rfl, hb⟩; have m_ := Aside0.mk (Kd.R_below HR.out hb); have n_ := Aside0.mk (below_then HB.out HB.out.size hb); clear HB HR; have HB := n_; have HR := m_; clear n_ m_ hb)
          go_meet
          case rel => exact ⟨by rw [HG2.out], HR, HB⟩
        · have ha' : (a0 == 1) = false := beq_eq_false_iff_ne.mpr ha
          have HG2 : Aside0 (p1 = greedy a0 r (state0 a0 a1)) := ⟨by rw [HG1.out]; unfold goodOf; rw [if_neg ha]⟩
          clear ha
          go_wp2
          go_meet
          case rel => exact ⟨by rw [HG2.out], HR, HB⟩
      case rest =>
        clear HR HB
        obtain ⟨rfl, HR, HB⟩ := hcut
        by_cases hz : r.length = 0
        · have hz1 : decide (0 < r.length) = false := decide_eq_false (by omega)
          have hz2 : decide (0 < (r.length : Int)) = false := decide_eq_false (by omega)
          clear hz
          go_wp2
          obtain ⟨w0, hw0⟩ : ∃ w0, w0 = wc := ⟨_, rfl⟩
          go_loopg [18] 2 (fun gk v18 wr => v18 = .int .i64 0 ∧ wr = wc ∧ 0 < gk)
          case atStart => exact ⟨rfl, rfl, by omega⟩
          case round =>
            obtain ⟨rfl, rfl, hgk⟩ := hrel
            have HLC : Aside0 (∀ W, Below wr.heap.size wr W → Tab W → Calls Tryd.prog 10 #[.int .i64 a0, .int .i64 a1, .slice Ar r.length cr] W fun e w' => e = .returned (.tuple #[.bool p1, .int .i64 0]) ∧ Below W.heap.size W w') := ⟨fun W hW hT => history_Linear.calls a0 a1 Ar cr r p1 0 W hT (Kd.C_below (Kd.R_reads' HR.out).2.2 hW) (Kd.R_reads' HR.out).2.1 HL1.out⟩
            cases ht0 : decide (0 < t.length) with
            | true =>
              have ht1 : decide ((0 : Int) < (t.length : Int)) = true := by rw [decide_eq_true_iff] at ht0 ⊢; omega
              go_wp2_with (go_at_call 10; (with_reducible refine (HLC.out _ (Below.refl _ _) (HT.out.below HB.out)).mono ?_); rintro e wd ⟨rfl, hb⟩; have n_ := Aside0.mk (below_then HB.out HB.out.size hb); clear HB; have HB := n_; clear n_ hb)
              go_ret
              exact ⟨by simp, HB.out⟩
            | false =>
              have ht1 : decide ((0 : Int) < (t.length : Int)) = false := by rw [decide_eq_false_iff_not] at ht0 ⊢; omega
              go_wp2_with (go_at_call 10; (with_reducible refine (HLC.out _ (Below.refl _ _) (HT.out.below HB.out)).mono ?_); rintro e wd ⟨rfl, hb⟩; have n_ := Aside0.mk (below_then HB.out HB.out.size hb); clear HB; have HB := n_; clear n_ hb)
              go_ret
              exact ⟨by simp, HB.out⟩
        · have hz1 : decide (0 < r.length) = true := decide_eq_true (by omega)
          have hz2 : decide (0 < (r.length : Int)) = true := decide_eq_true (by omega)
          obtain ⟨g, cap, eg, hgb, hgl, _⟩ := Kd.R_form HR.out (by omega)
          injection eg with eg _ ec
          subst eg
          have HRW := Aside0.mk (Row33.of HR.out)
          have HGB := Aside0.mk hgb
          have hrp : 0 < r.length := by omega
          clear HR hz hgl hgb ec
          go_wp2
          go_loopg [18] (t.length + 1) (fun gk v18 wr => ∃ (i : Nat) (m : List S33), v18 = .int .i64 i ∧ i ≤ t.length ∧ t.length - i < gk ∧ m.length = r.length ∧ Aside0 (m.Perm r) ∧ Aside0 (Row33 wr g cr m) ∧ Aside0 (Below w.heap.size w wr))
          case atStart => exact ⟨0, r, rfl, by omega, by omega, rfl, ⟨List.Perm.refl _⟩, HRW, HB⟩
          case round =>
            clear HB HRW
            obtain ⟨i, m, rfl, il, hgk, hml, HPM, HRW, HB⟩ := hrel
            have HML := Aside0.mk hml
            clear hml
            have htm := Kd.C_max HTT.out
            by_cases hlt : i < t.length
            · have hlt' : decide ((i : Int) < (t.length : Int)) = true := decide_eq_true (by omega)
              obtain ⟨at', ea, xt⟩ := Kd.at_int (Kd.C_below HTT.out HB.out) (i : Int) (by omega) (by omega)
              subst ea
              rw [Int.toNat_natCast] at xt
              have hj := modAt_lt (rd t (i : Int)) hrp
              obtain ⟨j, hj0⟩ : ∃ j, j = modAt (rd t (i : Int)) r.length := ⟨_, rfl⟩
              rw [← hj0] at hj
              have HJ := Aside0.mk hj0
              clear hj0
              have hi0 : (i : Int) < (t.length : Int) := by omega
              have hj1 : (j : Int) < (r.length : Int) := by omega
              have hr0 : (0 : Int) < (r.length : Int) := by omega
              have hj12 : j ≤ 12 := by omega
              obtain ⟨y, hy⟩ : ∃ y, y = rd_T33 m ((0 : Nat) : Int) := ⟨_, rfl⟩
              obtain ⟨z, hzz⟩ : ∃ z, z = rd_T33 m (j : Int) := ⟨_, rfl⟩
              have HY := Aside0.mk hy
              have HZ := Aside0.mk hzz
              have HC0 := Aside0.mk (HRW.out.cells (i := 0) (by rw [HML.out]; exact hrp) hy.symm)
              clear hy hzz
              obtain ⟨⟨a0_, a1_, a2_, a3_, a4_, a5_, a6_, a7_⟩, _⟩ := HC0.out
              simp only [Nat.zero_mul, Nat.zero_add] at a0_ a1_ a2_ a3_ a4_ a5_ a6_ a7_
              go_upto_region 26 with (go_at_call 22; (with_reducible refine (modulo_ref (rd t (i : Int)) r.length _ hrp (by omega)).mono ?_); rintro e3 w3 ⟨rfl, rfl⟩; rw [← HJ.out])
              obtain ⟨wb, hwb⟩ : ∃ wb, wb = wr.alloc (.cells #[.int .i64 y.f0, .int .i64 y.f1, .int .i64 y.f2, .int .i64 y.f3, .int .i64 y.f4, .int .i64 y.f5, .int .i64 y.f6.f0, .int .i64 y.f6.f1] 33) := ⟨_, rfl⟩
              have hlb : Below wr.heap.size wr wb := by rw [hwb]; exact below_alloc (Below.refl _ _) _
              have HBY : Aside0 (wb.heap[wr.heap.size]? = some (oS33 y)) := ⟨by rw [hwb]; exact blk_new wr _⟩
              have HRb := Aside0.mk (HRW.out.below hlb)
              have HBb : Aside0 (Below w.heap.size w wb) := ⟨below_then HB.out HB.out.size hlb⟩
              have xt := pw_cell_below hlb xt
              have hgn : g ≠ wr.heap.size := by
                obtain ⟨cur, hc, _⟩ := HRW.out.pre.out
                have := blk_lt hc
                omega
              have hgn' : wr.heap.size ≠ g := fun h => hgn h.symm
              rw [← hwb]
              obtain ⟨b, hb⟩ : ∃ b, b = wr.heap.size := ⟨_, rfl⟩
              rw [← hb] at HBY hgn hgn'
              rw [← hb]
              clear hwb hlb hb a0_ a1_ a2_ a3_ a4_ a5_ a6_ a7_ HRW HB HC0
              have HC1 := Aside0.mk (HRb.out.cells (i := 0) (by rw [HML.out]; exact hrp) HY.out.symm)
              have HC2 := Aside0.mk (HRb.out.cells (i := j) (by rw [HML.out]; exact hj) HZ.out.symm)
              obtain ⟨⟨a0_, a1_, a2_, a3_, a4_, a5_, a6_, a7_⟩, ⟨b0_, b1_, b2_, b3_, b4_, b5_, b6_, b7_⟩⟩ := HC1.out
              obtain ⟨⟨c0_, c1_, c2_, c3_, c4_, c5_, c6_, c7_⟩, _⟩ := HC2.out
              simp only [Nat.zero_mul, Nat.zero_add] at a0_ b0_ a1_ b1_ a2_ b2_ a3_ b3_ a4_ b4_ a5_ b5_ a6_ b6_ a7_ b7_
              go_upto_region 27 with (fail)
              obtain ⟨wd, hwd⟩ : ∃ wd, wd = ((((((((wb.setCell ⟨g, 0, none⟩ (.int .i64 z.f0)).setCell ⟨g, 1, none⟩ (.int .i64 z.f1)).setCell ⟨g, 2, none⟩ (.int .i64 z.f2)).setCell ⟨g, 3, none⟩ (.int .i64 z.f3)).setCell ⟨g, 4, none⟩ (.int .i64 z.f4)).setCell ⟨g, 5, none⟩ (.int .i64 z.f5)).setCell ⟨g, 6, none⟩ (.int .i64 z.f6.f0)).setCell ⟨g, 7, none⟩ (.int .i64 z.f6.f1)) := ⟨_, rfl⟩
              have hgbw := HGB.out
              have HRd : Aside0 (Row33 wd g cr (m.set 0 z)) := ⟨by
                rw [hwd]
                have := HRb.out.store8 0 (by rw [HML.out]; exact hrp) z
                simp only [Nat.zero_mul, Nat.zero_add] at this
                exact this⟩
              have HBd : Aside0 (Below w.heap.size w wd) := ⟨by
                rw [hwd]
                exact (((((((HBb.out.setCell (p := ⟨g, 0, none⟩) hgbw _).setCell (p := ⟨g, 1, none⟩) hgbw _).setCell (p := ⟨g, 2, none⟩) hgbw _).setCell (p := ⟨g, 3, none⟩) hgbw _).setCell (p := ⟨g, 4, none⟩) hgbw _).setCell (p := ⟨g, 5, none⟩) hgbw _).setCell (p := ⟨g, 6, none⟩) hgbw _).setCell (p := ⟨g, 7, none⟩) hgbw _⟩
              have HBYd : Aside0 (wd.heap[b]? = some (oS33 y)) := ⟨by rw [hwd]; exact blk_far (blk_far (blk_far (blk_far (blk_far (blk_far (blk_far (blk_far HBY.out hgn' _) hgn' _) hgn' _) hgn' _) hgn' _) hgn' _) hgn' _) hgn' _⟩
              rw [← hwd]
              clear hwd HRb HBb HBY HC1 HC2 a0_ b0_ c0_ a1_ b1_ c1_ a2_ b2_ c2_ a3_ b3_ c3_ a4_ b4_ c4_ a5_ b5_ c5_ a6_ b6_ c6_ a7_ b7_ c7_
              have HC3 := Aside0.mk (HRd.out.cells (i := j) (by simp; rw [HML.out]; exact hj) rfl)
              obtain ⟨⟨a0_, a1_, a2_, a3_, a4_, a5_, a6_, a7_⟩, ⟨b0_, b1_, b2_, b3_, b4_, b5_, b6_, b7_⟩⟩ := HC3.out
              obtain ⟨c0_, c1_, c2_, c3_, c4_, c5_, c6_, c7_⟩ := cells_event HBYd.out
              have HPN : Aside0 (((m.set 0 z).set j y).Perm r) := ⟨by
                have hj' : j < m.length := by rw [HML.out]; exact hj
                have h0' : 0 < m.length := by rw [HML.out]; exact hrp
                have := swap_perm m hj'
                rw [HZ.out, HY.out, rd33_eq m hj', rd33_eq m h0']
                exact this.trans HPM.out⟩
              have HLN : Aside0 (((m.set 0 z).set j y).length = r.length) := ⟨by simp; exact HML.out⟩
              have HSJ : Aside0 (j < (m.set 0 z).length) := ⟨by simp; rw [HML.out]; exact hj⟩
              go_wp2
              go_roundg (gk - 1)
              case measure => omega
              case rel => exact ⟨i + 1, (m.set 0 z).set j y, by go_num, by omega, by omega, HLN.out, HPN, ⟨HRd.out.store8 j HSJ.out y⟩, ⟨(((((((HBd.out.setCell (p := ⟨g, j * 8, none⟩) hgbw _).setCell (p := ⟨g, j * 8 + 1, none⟩) hgbw _).setCell (p := ⟨g, j * 8 + 2, none⟩) hgbw _).setCell (p := ⟨g, j * 8 + 3, none⟩) hgbw _).setCell (p := ⟨g, j * 8 + 4, none⟩) hgbw _).setCell (p := ⟨g, j * 8 + 5, none⟩) hgbw _).setCell (p := ⟨g, j * 8 + 6, none⟩) hgbw _).setCell (p := ⟨g, j * 8 + 7, none⟩) hgbw _⟩⟩
            · have hlt' : decide ((i : Int) < (t.length : Int)) = false := decide_eq_false (by omega)
              have HR := Aside0.mk (HRW.out.row HGB.out)
              rw [HML.out] at HR
              have HLM : Aside0 (history_Linear.f a0 a1 m = some (p1, 0)) := ⟨HLIN.out m HPM.out _ _ HP.out⟩
              have HLC : Aside0 (∀ W, Below wr.heap.size wr W → Tab W → Calls Tryd.prog 10 #[.int .i64 a0, .int .i64 a1, .slice (some ⟨g, 0, none⟩) r.length cr] W fun e w' => e = .returned (.tuple #[.bool p1, .int .i64 0]) ∧ Below W.heap.size W w') := ⟨by
                intro W hW hT
                have hr := Kd.R_reads' HR.out
                have := history_Linear.calls a0 a1 (some ⟨g, 0, none⟩) cr m p1 0 W hT (by have := Kd.C_below hr.2.2 hW; exact this) (by rw [HML.out]; exact hr.2.1) HLM.out
                rwa [HML.out] at this⟩
              go_wp2_with (go_at_call 10; (with_reducible refine (HLC.out _ (Below.refl _ _) (HT.out.below HB.out)).mono ?_); rintro e wc ⟨rfl, hb⟩; have n_ := Aside0.mk (below_then HB.out HB.out.size hb); clear HB; have HB := n_; clear n_ hb)
              go_ret
              exact ⟨by simp, HB.out⟩
  · have hpp : p1 = false ∧ p2 = 1 := by
      have : linOf a0 a1 (rowOf l) = (false, 1) := by unfold linOf; rw [if_pos hbe]
      rw [HP.out] at this
      exact ⟨congrArg Prod.fst this, congrArg Prod.snd this⟩
    obtain ⟨rfl, rfl⟩ := hpp
    clear hbe
    go_wp2
    go_ret
    exact ⟨rfl, HB.out⟩
end Go.Proofs.YtakhipedjccpkaaDoor.PH
