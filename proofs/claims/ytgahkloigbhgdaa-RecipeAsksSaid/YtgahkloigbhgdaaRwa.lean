/- The document's Order, and butlerlaw11.RecipeAsks: what their calls come to. Conditions: the arguments' sizes are those of a machine. -/
import Derived.Test.YtgahkloigbhgdaaRia
import Derived.Test.YtgahkloigbhgdaaRg
import Derived.Test.YtgahkloigbhgdaaRq
import Derived.Test.YtgahkloigbhgdaaPRx5
import Derived.Test.YtgahkloigbhgdaaRma
import Derived.Test.YtgahkloigbhgdaaPS6
import Derived.Test.YtgahkloigbhgdaaPRx3
namespace Go.Proofs.Ytgahkloigbhgdaa.PR
open Go.RowKit Go.Proofs.YtgahkloigbhgdaaW.PrintWords Go.Proofs.YtgahkloigbhgdaaW.PrintLast Go.Proofs.YtgahkloigbhgdaaW.PrintMore
set_option linter.unusedVariables false
set_option linter.unusedSimpArgs false

/-- What is read of one's own row stays read, whatever else changes. -/
theorem F_own {α : Type} {d : Kd α} {e base g n cap : Nat} {w : World} {xs : List α} (hE : d.E = []) (h : d.R e w base (fun _ => True) (.slice (some ⟨g, 0, none⟩) n cap) xs) (hn : n = xs.length) : Kd.F d w (fun k => k = g) (some ⟨g, 0, none⟩) n xs := by
  subst hn
  have h1 := Kd.R_tight hE h
  have h2 := Kd.V_F (Kd.R_V (base' := base) h1)
  exact Kd.F_mono h2 (fun k hk => by simpa [Value.ownBlock] using hk)

set_option maxHeartbeats 8000000 in
set_option maxRecDepth 100000 in
theorem reforder_calls (A0 : Option Addr) (c0 : Nat) (l0 : List (S43)) (A1 : Option Addr) (c1 : Nat) (l1 : List Int) (w : World) (hr0 : Kd.C k43 w A0 l0.length l0) (hc0 : l0.length ≤ c0) (hr1 : Kd.C (Kd.int .i64) w A1 l1.length l1) (hc1 : l1.length ≤ c1) :
    Calls Try.prog 21 #[.slice A0 l0.length c0, .slice A1 l1.length c1] w fun e w' => ∃ v0_ : Value, e = .returned (v0_) ∧ Kd.R (Kd.int .i64) 3 w' w.heap.size (fun _ => True) v0_ (orderOf l0 l1) ∧ Below w.heap.size w w' := by
  have HR0 := Aside0.mk hr0
  have HC0 := Aside0.mk hc0
  have HR1 := Aside0.mk hr1
  have HC1 := Aside0.mk hc1
  have hml := Kd.C_max hr1
  clear hr0 hc0 hr1 hc1
  obtain ⟨K, hK⟩ := (refRight_ev l0).rounds
  have HK := Aside0.mk hK
  clear hK
  obtain ⟨rn, hrn⟩ : ∃ rn, rn = rightN l0 := ⟨_, rfl⟩
  have HRN := Aside0.mk hrn
  rw [hrn] at *
  clear hrn
  by_cases hz : rightN l0 = 0
  · have hz' : (rightN l0 == 0) = true := by simpa using hz
    have hzz : ((rightN l0) != 0) = false := by simpa using hz
    have HE : Aside0 (orderOf l0 l1 = (askAll l0 l1).2) := ⟨by rw [orderOf, if_pos hz]⟩
    obtain ⟨hrg, hl0⟩ := rgt_of hz
    obtain ⟨K2, hK2⟩ := (reffates_ev hrg).rounds
    have HK2 := Aside0.mk hK2
    clear hK2
    have HRG := Aside0.mk hrg
    have hlen : l0.length ≤ 100 := hrg.vld.few
    clear hz hrg
    go_enter Try.func21, Try.ntmps21
    go_wp2_with (first
      | (go_at_call 18; (with_reducible refine (butlerref11_Right.calls K _ _ l0 (rightN l0) _ HR0.out HC0.out HK.out).mono ?_); rintro e w2 ⟨rfl, hb⟩; have HB2 := Aside0.mk hb; clear hb)
      | (go_at_call 32; (with_reducible refine (butlerref11_fates.calls K2 _ _ l0 (cans l0) (givesOf l0) _ (Kd.C_below HR0.out HB2.out) HC0.out HK2.out).mono ?_); rintro e w3 ⟨v0, v1, rfl, hv0, hv1, hb⟩; have hs3 := hb.size; have HB3 : Aside0 (Below w.heap.size w w3) := ⟨below_then HB2.out HB2.out.size hb⟩; have HV0 := Aside0.mk hv0; obtain ⟨gc, capc, ev0, _⟩ := Kd.R_form hv0 (by rw [cans_len]; exact hl0); rw [cans_len] at ev0; subst ev0; clear hb hv0 hv1)
      | ((with_reducible refine gate_dst (N := 23) rfl ?_); refine Kd.R_make Kd.bool _ 4 rfl (N := 23) rfl 41 _ _ rfl (l0.length : Int) rfl rfl Try.underlying41 (.bool false) 1 info4 rfl (by decide) (by omega) false (ok := fun _ => True) (okp := fun _ => True) rfl (fun _ hk => hk) trivial (by omega) (by omega) (Below.refl _ _) (Nat.le_refl _) ?_; intro v111 w8 ho8 hb hg_ hnew_; clear hg_ hnew_; obtain ⟨gd, capd, ev, hgd, ho9⟩ := made_row rfl ho8 hl0; subst ev; have HD := Aside0.mk ho9; have HB4 := Aside0.mk hb; have hs4 := hb.size; clear ho8 ho9 hb))
    obtain ⟨w9, hw9⟩ : ∃ w9, w9 = w8.alloc (.cells #[.slice A0 l0.length c0, .slice (some ⟨gc, 0, none⟩) l0.length capc, .slice (some ⟨gd, 0, none⟩) l0.length capd, .slice none 0 0] 61) := ⟨_, rfl⟩
    have hs2 := HB2.out.size
    have q1 : Below w8.heap.size w8 w9 := hw9 ▸ below_alloc (Below.refl _ _) _
    have B9 : Below w.heap.size w w9 := below_then (below_then HB3.out HB3.out.size HB4.out) (by omega) q1
    have hR0 := HV0.out
    have F3 := F_own rfl hR0 (cans_len l0).symm
    have F9 : Kd.F Kd.bool w9 (fun k => k = gc) (some ⟨gc, 0, none⟩) l0.length (cans l0) := Kd.F_below (Kd.F_below F3 HB4.out) q1
    have hgc3 : ∃ cs, w3.heap[gc]? = some (.cells cs 4 (0, 0)) := Kd.R_typed hR0 gc rfl
    have hgcl : gc < w3.heap.size := by obtain ⟨cs, hc⟩ := hgc3; exact blk_lt hc
    have HW9 : Aside0 (OA l0 w A0 c0 w8.heap.size gd gc capd capc w9 (List.replicate l0.length false, []) (.slice none 0 0)) :=
      ⟨⟨hw9 ▸ blk_new w8 _, Kd.R_below (Kd.R_mono (Kd.R_lower HD.out (by omega)) (fun _ _ => trivial)) q1, F9, Kd.R_nil _ _ _ _ _, HR0.out, B9, by omega, by omega, by
        obtain ⟨cs, hc⟩ := hgc3
        exact ⟨cs, (q1.block gc (by omega)).trans ((HB4.out.block gc hgcl).trans hc)⟩⟩⟩
    rw [← hw9]
    clear hw9 q1 B9 F3 F9 hgc3 hgcl hR0 hs2
    go_loopg [9] (l1.length + 1) (fun gk v9 wr => ∃ (i : Int) (v1 : Value), v9 = .int .i64 i ∧ 0 ≤ i ∧ i ≤ (l1.length : Int) ∧ Aside0 (l1.length - i.toNat < gk) ∧ Aside0 (OA l0 w A0 c0 w8.heap.size gd gc capd capc wr (askAll l0 (l1.take i.toNat)) v1))
    case atStart => exact ⟨0, _, rfl, by omega, by omega, ⟨by omega⟩, ⟨by simpa [askAll] using HW9.out⟩⟩
    case round =>
      clear HW9
      obtain ⟨i, v1, rfl, i0, i1, HG, HW⟩ := hrel
      obtain ⟨hk1, hk2⟩ := askAll_keeps HRG.out.vld (l1.take i.toNat)
      have HI := Aside0.mk hk1
      have HU := Aside0.mk hk2
      clear hk1 hk2
      by_cases hlt : i < (l1.length : Int)
      · obtain ⟨ad1, e1, g1⟩ := Kd.at_int (Kd.C_below HR1.out HW.out.low) i i0 hlt
        subst e1
        obtain ⟨k, hk⟩ : ∃ k, k = rd l1 i := ⟨_, rfl⟩
        rw [← hk] at g1
        have HSN : Aside0 (l1.take (i + 1).toNat = l1.take i.toNat ++ [k]) := ⟨by rw [hk]; exact take_rd i0 hlt⟩
        clear hk
        have hlt' : decide (i < (l1.length : Int)) = true := decide_eq_true hlt
        by_cases hk0 : 0 ≤ k
        · by_cases hk1 : k < (l0.length : Int)
          · have hk0' : decide (0 ≤ k) = true := decide_eq_true hk0
            have hk1' : decide (k < (l0.length : Int)) = true := decide_eq_true hk1
            go_wp2_with fail
            refine (rask_calls HRG.out HC0.out (l0.length + 1) k (askAll l0 (l1.take i.toNat)) v1 0 wr (by have := HU.out; omega) hk0 hk1 HI.out HW.out).mono ?_
            rintro e w2 ⟨⟨v2, rfl, hW3⟩⟩
            have HW3 : Aside0 (OA l0 w A0 c0 w8.heap.size gd gc capd capc w2 (askAll l0 (l1.take (i + 1).toNat)) v2) := ⟨by rw [HSN.out, askAll_snoc, if_pos ⟨hk0, hk1⟩]; exact hW3⟩
            clear hW3
            go_wp2
            go_roundg (gk - 1)
            case measure => have := HG.out; omega
            case rel => exact ⟨i + 1, v2, by go_num, by omega, by omega, ⟨by have := HG.out; omega⟩, HW3⟩
          · have hk0' : decide (0 ≤ k) = true := decide_eq_true hk0
            have hk1' : decide (k < (l0.length : Int)) = false := decide_eq_false hk1
            have HW3 : Aside0 (OA l0 w A0 c0 w8.heap.size gd gc capd capc wr (askAll l0 (l1.take (i + 1).toNat)) v1) := ⟨by rw [HSN.out, askAll_snoc, if_neg (fun h => hk1 h.2)]; exact HW.out⟩
            go_wp2
            go_roundg (gk - 1)
            case measure => have := HG.out; omega
            case rel => exact ⟨i + 1, v1, by go_num, by omega, by omega, ⟨by have := HG.out; omega⟩, HW3⟩
        · have hk0' : decide (0 ≤ k) = false := decide_eq_false hk0
          have HW3 : Aside0 (OA l0 w A0 c0 w8.heap.size gd gc capd capc wr (askAll l0 (l1.take (i + 1).toNat)) v1) := ⟨by rw [HSN.out, askAll_snoc, if_neg (fun h => hk0 h.1)]; exact HW.out⟩
          go_wp2
          go_roundg (gk - 1)
          case measure => have := HG.out; omega
          case rel => exact ⟨i + 1, v1, by go_num, by omega, by omega, ⟨by have := HG.out; omega⟩, HW3⟩
      · have hlt' : decide (i < (l1.length : Int)) = false := decide_eq_false hlt
        obtain ⟨_, _, _, z1, _, _⟩ := HW.out.cells
        obtain ⟨A9, c9, e9⟩ := Kd.R_slice HW.out.rO
        subst e9
        have HE2 : Aside0 ((askAll l0 (l1.take i.toNat)).2 = orderOf l0 l1) := ⟨by rw [List.take_of_length_le (by omega)]; exact HE.out.symm⟩
        go_wp2
        go_ret
        exact ⟨_, rfl, by rw [← HE2.out]; exact HW.out.rO, HW.out.low⟩
  · have hz' : (rightN l0 == 0) = false := by simpa using hz
    have hzz : ((rightN l0) != 0) = true := by simpa using hz
    have HE : Aside0 (orderOf l0 l1 = []) := ⟨by rw [orderOf, if_neg hz]⟩
    clear hz
    go_enter Try.func21, Try.ntmps21
    go_wp2_with (first | (go_at_call 18; (with_reducible refine (butlerref11_Right.calls K _ _ l0 (rightN l0) _ HR0.out HC0.out HK.out).mono ?_); rintro e w2 ⟨rfl, hb⟩; have HB2 := Aside0.mk hb; clear hb))
    go_ret
    exact ⟨_, rfl, by rw [HE.out]; exact Kd.R_nil _ _ _ _ _, HB2.out⟩


theorem sameInts_self (xs : List Int) (hx : xs.length ≤ 9223372036854775806) : ∃ k, butlerlaw11_sameInts.f k xs xs = some true := by
  have l0 : ∀ (n i : Nat), i + n = xs.length → butlerlaw11_sameInts.l0 (n + 1) xs xs i = some true := by
    intro n
    induction n with
    | zero => intro i hi; simp only [butlerlaw11_sameInts.l0]; rw [if_neg (by omega)]
    | succ n ih =>
      intro i hi
      rw [butlerlaw11_sameInts.l0, if_pos (by omega), if_pos (by omega), if_pos (by omega), if_pos rfl, wrap_up (show (0 : Int) ≤ i by omega) (by omega)]
      exact ih (i + 1) (by omega)
  refine ⟨xs.length + 1, ?_⟩
  unfold butlerlaw11_sameInts.f
  rw [if_pos rfl]
  exact l0 xs.length 0 (by omega)
theorem ringsOf_len (l : List S43) : (ringsOf l).length ≤ 100 := by
  unfold ringsOf
  split
  · rename_i h
    have := ringsTo_len l l.length
    have := (rgt_of h).1.vld.few
    omega
  · simp
theorem orderOf_len (l : List S43) (ks : List Int) : (orderOf l ks).length ≤ 100 := by
  unfold orderOf
  split
  · rename_i h
    have hr := (rgt_of h).1
    have h1 := (askAll_keeps hr.vld ks).1.few
    have := hr.vld.few
    omega
  · simp
theorem mark99 {xs : List Int} : rd (xs ++ [-99]) ((xs.length : Nat) : Int) = -99 := by simp [rd]
/-- What the law has lent and laid, as it stands. -/
structure Lw (w W1 : World) (g r : Nat) (l : List S43) (b : Nat → Nat) (ks : List Int) (x : World) : Prop where
  low : Below w.heap.size w x
  lm : LM W1 g l l.length b x
  endc : x.cell? ⟨g, l.length * 5 + 2, none⟩ = some (.int .i64 (-73))
  row : x.heap[r]? = some (.cells (nums .i64 (ks ++ [-99])).toArray 3 (0, 0))
  gr : g < r
  bs : ∀ j, j < l.length → b j < r
theorem Lw.below {w W1 : World} {g r : Nat} {l : List S43} {b : Nat → Nat} {ks : List Int} {x y : World} (h : Lw w W1 g r l b ks x) (hb : Below x.heap.size x y) : Lw w W1 g r l b ks y := by
  have hr := blk_lt h.row
  exact ⟨below_then h.low h.low.size hb, h.lm.later (by have := h.gr; omega) hb, pw_cell_below hb h.endc, (hb.block r hr).trans h.row, h.gr, h.bs⟩
/-- A row of the call's own, made before the heap had grown to S. -/
structure Res (N S : Nat) (v : Value) (xs : List Int) (x : World) : Prop where
  r : Kd.R (Kd.int .i64) 3 x N (fun _ => True) v xs
  hi : ∀ k, v.ownBlock = some k → k < S
theorem Res.below {N S : Nat} {v : Value} {xs : List Int} {x y : World} (h : Res N S v xs x) (hb : Below x.heap.size x y) : Res N S v xs y := ⟨Kd.R_below h.r hb, h.hi⟩
theorem Res.mk' {N : Nat} {v : Value} {xs : List Int} {x : World} (h : Kd.R (Kd.int .i64) 3 x N (fun _ => True) v xs) : Res N x.heap.size v xs x := ⟨h, Kd.R_lt h⟩
theorem Res.spoil {N S g M : Nat} {v : Value} {xs : List Int} {x y : World} (h : Res N S v xs x) (hs : SB g M x y) (hM : M ≤ N) : Res N S v xs y :=
  ⟨Kd.R_mono (Kd.R_step (Kd.R_bound h.r) (fun k hk _ => hs.high k (Nat.le_trans hM hk.2.1))) (fun _ h => h.1), h.hi⟩

theorem copy_block {w : World} {k : Nat} {xs : List Int} (h : w.heap[k]? = some (.cells (splice (List.replicate (xs.length + 1) (Value.int .i64 0)) 0 (nums .i64 xs)).toArray 3 (0, 0))) : w.heap[k]? = some (.cells (nums .i64 (xs ++ [0])).toArray 3 (0, 0)) := by
  rw [h]
  have : splice (List.replicate (xs.length + 1) (Value.int .i64 0)) 0 (nums .i64 xs) = nums .i64 (xs ++ [0]) := by
    simp [splice, nums, List.drop_replicate]
  rw [this]
theorem set_one {xs : List Int} : (xs ++ [0]).set xs.length (-99) = xs ++ [-99] := by
  rw [List.set_append_right _ _ (Nat.le_refl _)]; simp
theorem made_zeros (n : Nat) : madeCells #[Value.int .i64 0] n = (List.replicate n (Value.int .i64 0)).toArray := by
  apply Array.ext
  · simp [size_madeCells]
  · intro j h1 h2; simp [madeCells, Nat.mod_one]
theorem row_reads {x : World} {r : Nat} {ks : List Int} {m : Int} (h : x.heap[r]? = some (.cells (nums .i64 (ks ++ [m])).toArray 3 (0, 0))) (hk : ks.length ≤ 9223372036854775807) : (Kd.int .i64).C x (some ⟨r, 0, none⟩) ks.length ks := by
  refine ⟨rfl, hk, fun _ => ⟨_, rfl, fun j p hp => ?_⟩⟩
  have hj : j < ks.length := (List.getElem?_eq_some_iff.1 hp).1
  refine ⟨[.int .i64 p], rfl, rfl, fun i u hu => ?_⟩
  have hi : i = 0 := by have := (List.getElem?_eq_some_iff.1 hu).1; simp at this; omega
  subst hi
  simp at hu
  subst hu
  rw [show j * (Kd.int .i64).sz + 0 = j by simp [Kd.int, Kd.scalar], add_plain, (num_cell h (o := j) (by simp; omega)).1]
  simp only [rd, Int.toNat_natCast, List.getD_eq_getElem?_getD]
  rw [List.getElem?_append_left hj, hp]; rfl

structure Lx (w : World) (r : Nat) (ks : List Int) (x : World) : Prop where
  low : Below w.heap.size w x
  row : x.heap[r]? = some (.cells (nums .i64 (ks ++ [-99])).toArray 3 (0, 0))
theorem Lx.below {w : World} {r : Nat} {ks : List Int} {x y : World} (h : Lx w r ks x) (hb : Below x.heap.size x y) : Lx w r ks y :=
  ⟨below_then h.low h.low.size hb, (hb.block r (blk_lt h.row)).trans h.row⟩
theorem Res.form {N S : Nat} {v : Value} {xs : List Int} {x : World} (h : Res N S v xs x) : ∃ A c, v = .slice A xs.length c := Kd.R_slice h.r
theorem Res.reads {N S n : Nat} {A : Option Addr} {c : Nat} {xs : List Int} {x : World} (h : Res N S (.slice A n c) xs x) : n ≤ c ∧ (Kd.int .i64).C x A xs.length xs := (Kd.R_reads' h.r).2

theorem Res.row {N S n B : Nat} {A : Option Addr} {c : Nat} {xs : List Int} {x : World} (h : Res N S (.slice A n c) xs x) (hB : B ≤ N) : ∃ b, Row x B A b n c ∧ (A ≠ none → N ≤ b ∧ b < S) := by
  have hn := (Kd.R_reads' h.r).1
  obtain ⟨inner, ho⟩ := Kd.R_own h.r
  rcases ho.2 with ⟨e, h0⟩ | ⟨g, cap, cur, e, hb, hh, hle, hm, hs, _⟩
  · injection e with e1 e2 e3
    subst e1 e2 e3
    exact ⟨0, ⟨by omega, by simp [maxLen], fun _ => rfl, fun h => absurd rfl h⟩, fun h => absurd rfl h⟩
  · injection e with e1 e2 e3
    subst e1 e3
    refine ⟨g, ⟨by omega, hm, fun h => by simp at h, fun _ => ⟨rfl, by omega, cur, hh, by simpa [Kd.int, Kd.scalar] using hs⟩⟩, fun _ => ⟨hb, h.hi g rfl⟩⟩
def at4 {α : Type} (a b c d : α) : Nat → α
  | 0 => a
  | 1 => b
  | 2 => c
  | _ => d
theorem all4 {P : Nat → Prop} (h0 : P 0) (h1 : P 1) (h2 : P 2) (h3 : P 3) : ∀ j, j < 4 → P j := by
  intro j hj
  match j, hj with
  | 0, _ => exact h0
  | 1, _ => exact h1
  | 2, _ => exact h2
  | 3, _ => exact h3
/-- Numbers that grow lie apart. -/
theorem apart4 {b N S : Nat → Nat} {ok : Nat → Prop} (hb : ∀ j, j < 4 → ok j → N j ≤ b j ∧ b j < S j) (h01 : S 0 ≤ N 1) (h02 : S 0 ≤ N 2) (h03 : S 0 ≤ N 3) (h12 : S 1 ≤ N 2) (h13 : S 1 ≤ N 3) (h23 : S 2 ≤ N 3) : ∀ j k, j < 4 → k < 4 → ok j → ok k → b j = b k → j = k := by
  have lt : ∀ j k, j < k → k < 4 → S j ≤ N k := by
    intro j k hjk hk
    match j, k, hjk, hk with
    | 0, 1, _, _ => exact h01
    | 0, 2, _, _ => exact h02
    | 0, 3, _, _ => exact h03
    | 1, 2, _, _ => exact h12
    | 1, 3, _, _ => exact h13
    | 2, 3, _, _ => exact h23
    | j + 3, k, h1, h2 => exact absurd h2 (by omega)
    | 2, k + 4, _, h => exact absurd h (by omega)
    | 1, k + 4, _, h => exact absurd h (by omega)
    | 0, k + 4, _, h => exact absurd h (by omega)
  intro j k hj hk oj ok' e
  have h1 := hb j hj oj
  have h2 := hb k hk ok'
  rcases Nat.lt_trichotomy j k with h | h | h
  · have := lt j k h hk; omega
  · exact h
  · have := lt k j h hj; omega

set_option maxHeartbeats 8000000 in
set_option maxRecDepth 100000 in
theorem asks_calls (A0 : Option Addr) (c0 : Nat) (l : List S43) (key : Int) (A2 : Option Addr) (c2 : Nat) (ks : List Int) (w : World) (hr0 : Kd.C k43 w A0 l.length l) (hc0 : l.length ≤ c0) (hr2 : Kd.C (Kd.int .i64) w A2 ks.length ks) (hc2 : ks.length ≤ c2)
    (hn : 56 * (l.length + 1) ≤ 281474976710656) (hk : ∀ k, 0 ≤ k → k < (l.length : Int) → 8 * ((nds l k).length + 2) ≤ 281474976710656) (hks : 8 * (ks.length + 1) ≤ 281474976710656) :
    Calls Try.prog 4 #[.slice A0 l.length c0, .int .i64 key, .slice A2 ks.length c2] w fun e w' => e = .returned (.bool true) ∧ Below w.heap.size w w' := by
  have HR0 := Aside0.mk hr0
  have HC0 := Aside0.mk hc0
  have HR2 := Aside0.mk hr2
  have HC2 := Aside0.mk hc2
  have HK := Aside0.mk hk
  clear hr0 hc0 hr2 hc2 hk
  obtain ⟨Ka, hKa⟩ := awake_ev.rounds
  obtain ⟨Ke, hKe⟩ := (Right_ev l).rounds
  obtain ⟨Kr, hKr⟩ := (Rings_ev l).rounds
  obtain ⟨Kf, hKf⟩ := (Fate_ev l key).rounds
  have HKa := Aside0.mk hKa
  have HKe := Aside0.mk hKe
  have HKr := Aside0.mk hKr
  have HKf := Aside0.mk hKf
  clear hKa hKe hKr hKf
  have hmk : ∀ W : World, (Instr.makeSlice 26 (.int .i64 ((ks.length : Int) + 1)) (.int .i64 ((ks.length : Int) + 1))).run Try.prog W = .ok (.slice (some ⟨W.heap.size, 0, none⟩) (ks.length + 1) (ks.length + 1)) (W.alloc (.cells (madeCells #[.int .i64 0] (ks.length + 1)) 3)) := by
    intro W
    obtain ⟨i0, hi, hz0, hz1, hz2⟩ := inf3
    have := run_make (P := Try.prog) W 26 3 i0 _ Try.underlying26 hi hz0 .i64 .i64 ((ks.length : Int) + 1) ((ks.length : Int) + 1) (by omega) (by omega) (by rw [hz2]; omega) (by omega)
    rw [this, hz1, show ((ks.length : Int) + 1).toNat = ks.length + 1 by omega, Nat.mul_one]
    rfl
  go_enter Try.func4, Try.ntmps4
  go_upto_region 2 with (first | (go_at_call 8; (with_reducible refine (butlerlaw11_awake.calls Ka true _ HKa.out).mono ?_); rintro e w1 ⟨rfl, hb⟩; have HB1 := Aside0.mk hb; clear hb))
  go_upto_region 3 with (first | (go_at_call 10; (with_reducible refine (lent_calls A0 c0 l _ (Kd.C_below HR0.out HB1.out) HC0.out hn HK.out).mono ?_); rintro e w2 ⟨⟨v8, rfl, b, hLM, hEnd, rfl⟩⟩; have HLM := Aside0.mk hLM; have HEnd := Aside0.mk hEnd; clear hLM hEnd))
  go_upto_region 4 with (fail)
  obtain ⟨w3, hw3⟩ : ∃ w3, w3 = w2.alloc (.cells (madeCells #[Value.int .i64 0] (ks.length + 1)) 3) := ⟨_, rfl⟩
  rw [← hw3]
  have hb23 : Below w2.heap.size w2 w3 := by rw [hw3]; exact (Below.refl _ _).alloc (Nat.le_refl _) _
  have hB3 : w3.heap[w2.heap.size]? = some (.cells (List.replicate (ks.length + 1) (Value.int .i64 0)).toArray 3 (0, 0)) := by rw [hw3, heap_alloc_new, made_zeros]
  have hs12 := HLM.out.low.size
  have hg2 : w1.heap.size < w2.heap.size := by obtain ⟨cs, hc, _⟩ := HLM.out.hg; exact blk_lt hc
  have HW2 : Aside0 (Below w.heap.size w w2) := ⟨below_then HB1.out HB1.out.size HLM.out.low⟩
  have hcp : (nums .i64 ks).length = Nat.min ks.length (ks.length + 1) ∧ 0 + (nums .i64 ks).length ≤ (List.replicate (ks.length + 1) (Value.int .i64 0)).length := by
    rw [nums_length, List.length_replicate]; exact ⟨(Nat.min_eq_left (by omega)).symm, by omega⟩
  have hcp := Aside0.mk hcp
  have hsrc := src_cells w2.heap.size HR2.out w3 (below_then HW2.out HW2.out.size hb23)
  clear hw3 hmk
  go_upto_region 5 with (first
    | ((with_reducible refine gate_builtin (b := .copy) (xs := #[.tmp 40, .tmp 41]) rfl ?_); refine wpList_copy_splice rfl (.tmp 40) (.tmp 41) 26 26 rfl 3 Try.underlying26 (by kernel_rfl) (some ⟨w2.heap.size, 0, none⟩) A2 (ks.length + 1) (ks.length + 1) ks.length c2 rfl rfl w2.heap.size 0 (List.replicate (ks.length + 1) (Value.int .i64 0)) 3 hB3 (nums .i64 ks) hcp.out.1 hsrc hcp.out.2 nums_one w2.heap.size w3 (Below.refl _ _) (Nat.le_refl _) ?_; intro w4 HC4 hb4))
  have hB4 := copy_block HC4.out
  obtain ⟨p0, f0⟩ := num_cell hB4 (o := ks.length) (by simp)
  obtain ⟨w5, hw5⟩ : ∃ w5, w5 = w4.setCell ⟨w2.heap.size, ks.length, none⟩ (.int .i64 (-99)) := ⟨_, rfl⟩
  go_upto_region 6 with (fail)
  rw [← hw5]
  have HL5 : Aside0 (Lw w w1 w1.heap.size w2.heap.size l b ks w5) := by
    have hb25 : Below w2.heap.size w2 w5 := by rw [hw5]; exact (hb23.trans hb4).setCell (Nat.le_refl _) _
    have hB5 := num_set (o := ks.length) hB4 (-99)
    rw [← hw5, set_one] at hB5
    exact ⟨below_then HW2.out HW2.out.size hb25, HLM.out.later hg2 hb25, pw_cell_below hb25 HEnd.out, hB5, hg2, fun j hj => (HLM.out.lo j hj).2⟩
  clear hB3 hB4 HC4 hb4 p0 f0 hw5 hb23 hcp hsrc HLM HEnd
  obtain ⟨fi, fn, hfp⟩ : ∃ fi fn, fateP l key = (fi, fn) := ⟨_, _, rfl⟩
  have HFP := Aside0.mk hfp
  rw [hfp] at HKf
  clear hfp
  have HKK : Aside0 (∀ k, 0 ≤ k → k < (l.length : Int) → (nds l k).length ≤ 9223372036854775807) := ⟨fun k k0 k1 => by have := HK.out k k0 k1; omega⟩
  go_upto_region 7 with (first | (go_at_call 11; (with_reducible refine (recipe_Right.calls Ke _ _ l (rightN l) _ (HL5.out.lm.reads (by omega) HKK.out) (by omega) HKe.out).mono ?_); rintro e w6 ⟨rfl, hb⟩; have HL6 := Aside0.mk (HL5.out.below hb); clear hb))
  clear HL5
  go_upto_region 8 with (first | (go_at_call 12; (with_reducible refine (recipe_Rings.calls Kr _ _ l (ringsOf l) _ (HL6.out.lm.reads (by omega) HKK.out) (by omega) HKr.out).mono ?_); rintro e w7 ⟨v11, rfl, hv, hb⟩; have HL7 := Aside0.mk (HL6.out.below hb); have HA7 := Aside0.mk (Res.mk' hv); have s7 := hb.size; clear hb hv))
  go_upto_region 9 with (first | (go_at_call 13; (with_reducible refine (recipe_Fate.calls Kf _ _ l key fi fn _ (HL7.out.lm.reads (by omega) HKK.out) (by omega) HKf.out).mono ?_); rintro e w8 ⟨rfl, hb⟩; have HL8 := Aside0.mk (HL7.out.below hb); have HA8 := Aside0.mk (HA7.out.below hb); have s8 := hb.size; clear hb))
  clear HL7 HA7
  go_upto_region 10 with (first | (go_at_call 14; (with_reducible refine (recipe_Order.calls _ _ l _ _ ks (orderOf l ks) _ (HL8.out.lm.reads (by omega) HKK.out) (by omega) (row_reads HL8.out.row (by omega)) (by omega) rfl).mono ?_); rintro e w9 ⟨v14, rfl, hv, hb⟩; have HL9 := Aside0.mk (HL8.out.below hb); have HA9 := Aside0.mk (HA8.out.below hb); have HB9 := Aside0.mk (Res.mk' hv); have s9 := hb.size; clear hb hv))
  clear HL8 HA8
  go_upto_region 11 with (first | (go_at_call 12; (with_reducible refine (recipe_Rings.calls Kr _ _ l (ringsOf l) _ (HL9.out.lm.reads (by omega) HKK.out) (by omega) HKr.out).mono ?_); rintro e w10 ⟨v15, rfl, hv, hb⟩; have HL10 := Aside0.mk (HL9.out.below hb); have HA10 := Aside0.mk (HA9.out.below hb); have HB10 := Aside0.mk (HB9.out.below hb); have HC10 := Aside0.mk (Res.mk' hv); have s10 := hb.size; clear hb hv))
  clear HL9 HA9 HB9
  go_upto_region 12 with (first | (go_at_call 14; (with_reducible refine (recipe_Order.calls _ _ l _ _ ks (orderOf l ks) _ (HL10.out.lm.reads (by omega) HKK.out) (by omega) (row_reads HL10.out.row (by omega)) (by omega) rfl).mono ?_); rintro e w11 ⟨v16, rfl, hv, hb⟩; have HL11 := Aside0.mk (HL10.out.below hb); have HA11 := Aside0.mk (HA10.out.below hb); have HB11 := Aside0.mk (HB10.out.below hb); have HC11 := Aside0.mk (HC10.out.below hb); have HD11 := Aside0.mk (Res.mk' hv); have s11 := hb.size; clear hb hv))
  clear HL10 HA10 HB10 HC10
  go_upto_region 13 with (first | (go_at_call 15; (with_reducible refine (kept_calls A0 c0 l _ HL11.out.lm HL11.out.endc (Kd.C_below HR0.out HL11.out.low) HC0.out hn HK.out).mono ?_); rintro e w12 ⟨rfl, hb⟩; have HL12 := Aside0.mk (HL11.out.below hb); have HA12 := Aside0.mk (HA11.out.below hb); have HB12 := Aside0.mk (HB11.out.below hb); have HC12 := Aside0.mk (HC11.out.below hb); have HD12 := Aside0.mk (HD11.out.below hb); have s12 := hb.size; clear hb))
  clear HL11 HA11 HB11 HC11 HD11
  have hs6 : w2.heap.size < w6.heap.size := blk_lt HL6.out.row
  have hww : w.heap.size ≤ w1.heap.size := HB1.out.size
  go_upto_region 14 with (first | (go_at_call 16; (with_reducible refine (spoil_calls (g := w1.heap.size) (N := w2.heap.size) (b := b) l _ (SM.of HL12.out.lm HL12.out.bs) hn HK.out hg2).mono ?_); rintro e w13 ⟨rfl, hs⟩; have HX13 : Aside0 (Lx w w2.heap.size ks w13) := ⟨⟨HL12.out.low.trans (hs.low.mono hww), (hs.high _ (Nat.le_refl _)).trans HL12.out.row⟩⟩; have HA13 := Aside0.mk (HA12.out.spoil hs (by omega)); have HB13 := Aside0.mk (HB12.out.spoil hs (by omega)); have HC13 := Aside0.mk (HC12.out.spoil hs (by omega)); have HD13 := Aside0.mk (HD12.out.spoil hs (by omega)); have s13 := hs.size; clear hs))
  clear HL12 HA12 HB12 HC12 HD12 HL6
  obtain ⟨a11, c11, e11⟩ := HA13.out.form
  obtain ⟨a14, c14, e14⟩ := HB13.out.form
  obtain ⟨a15, c15, e15⟩ := HC13.out.form
  obtain ⟨a16, c16, e16⟩ := HD13.out.form
  subst e11 e14 e15 e16
  obtain ⟨Kk, hKk⟩ := sameInts_self ks (by omega)
  obtain ⟨Kq, hKq⟩ := sameInts_self (ringsOf l) (by have := ringsOf_len l; omega)
  obtain ⟨Ko, hKo⟩ := sameInts_self (orderOf l ks) (by have := orderOf_len l ks; omega)
  have HKk := Aside0.mk hKk
  have HKq := Aside0.mk hKq
  have HKo := Aside0.mk hKo
  clear hKk hKq hKo
  go_upto_region 15 with (first | (go_at_call 17; (with_reducible refine (butlerlaw11_sameInts.calls Kk _ _ ks _ _ ks true _ (row_reads HX13.out.row (by omega)) (by omega) (Kd.C_below HR2.out HX13.out.low) HC2.out HKk.out).mono ?_); rintro e w14 ⟨rfl, hd⟩; have hb := hd.below; have HX14 := Aside0.mk (HX13.out.below hb); have HA14 := Aside0.mk (HA13.out.below hb); have HB14 := Aside0.mk (HB13.out.below hb); have HC14 := Aside0.mk (HC13.out.below hb); have HD14 := Aside0.mk (HD13.out.below hb); have s14 := hb.size; clear hb hd))
  clear HX13 HA13 HB13 HC13 HD13
  obtain ⟨Kr1, hKr1⟩ := (refRight_ev l).rounds
  obtain ⟨Kr2, hKr2⟩ := (refRings_ev l).rounds
  obtain ⟨Kr3, hKr3⟩ := (refFate_ev l key).rounds
  rw [HFP.out] at hKr3
  have HKr1 := Aside0.mk hKr1
  have HKr2 := Aside0.mk hKr2
  have HKr3 := Aside0.mk hKr3
  clear hKr1 hKr2 hKr3
  go_upto_region 16 with (first | (go_at_call 18; (with_reducible refine (butlerref11_Right.calls Kr1 _ _ l (rightN l) _ (Kd.C_below HR0.out HX14.out.low) HC0.out HKr1.out).mono ?_); rintro e w15 ⟨rfl, hb⟩; have HX15 := Aside0.mk (HX14.out.below hb); have HA15 := Aside0.mk (HA14.out.below hb); have HB15 := Aside0.mk (HB14.out.below hb); have HC15 := Aside0.mk (HC14.out.below hb); have HD15 := Aside0.mk (HD14.out.below hb); have s15 := hb.size; clear hb))
  clear HX14 HA14 HB14 HC14 HD14
  go_upto_region 17 with (first | (go_at_call 19; (with_reducible refine (butlerref11_Rings.calls Kr2 _ _ l (ringsOf l) _ (Kd.C_below HR0.out HX15.out.low) HC0.out HKr2.out).mono ?_); rintro e w16 ⟨v20, rfl, hv, hb⟩; have HX16 := Aside0.mk (HX15.out.below hb); have HA16 := Aside0.mk (HA15.out.below hb); have HB16 := Aside0.mk (HB15.out.below hb); have HC16 := Aside0.mk (HC15.out.below hb); have HD16 := Aside0.mk (HD15.out.below hb); have HE16 := Aside0.mk (Res.mk' hv); have s16 := hb.size; clear hb hv))
  clear HX15 HA15 HB15 HC15 HD15
  go_upto_region 18 with (first | (go_at_call 20; (with_reducible refine (butlerref11_Fate.calls Kr3 _ _ l key fi fn _ (Kd.C_below HR0.out HX16.out.low) HC0.out HKr3.out).mono ?_); rintro e w17 ⟨rfl, hb⟩; have HX17 := Aside0.mk (HX16.out.below hb); have HA17 := Aside0.mk (HA16.out.below hb); have HB17 := Aside0.mk (HB16.out.below hb); have HC17 := Aside0.mk (HC16.out.below hb); have HD17 := Aside0.mk (HD16.out.below hb); have HE17 := Aside0.mk (HE16.out.below hb); have s17 := hb.size; clear hb))
  clear HX16 HA16 HB16 HC16 HD16 HE16
  go_upto_region 19 with (first | (go_at_call 21; (with_reducible refine (reforder_calls _ _ l _ _ ks _ (Kd.C_below HR0.out HX17.out.low) HC0.out (Kd.C_below HR2.out HX17.out.low) HC2.out).mono ?_); rintro e w18 ⟨v23, rfl, hv, hb⟩; have HX18 := Aside0.mk (HX17.out.below hb); have HA18 := Aside0.mk (HA17.out.below hb); have HB18 := Aside0.mk (HB17.out.below hb); have HC18 := Aside0.mk (HC17.out.below hb); have HD18 := Aside0.mk (HD17.out.below hb); have HE18 := Aside0.mk (HE17.out.below hb); have HF18 := Aside0.mk (Res.mk' hv); have s18 := hb.size; clear hb hv))
  clear HX17 HA17 HB17 HC17 HD17 HE17
  obtain ⟨a20, c20, e20⟩ := HE18.out.form
  obtain ⟨a23, c23, e23⟩ := HF18.out.form
  subst e20 e23
  go_upto_region 20 with (first | (go_at_call 17; (with_reducible refine (butlerlaw11_sameInts.calls Kq _ _ (ringsOf l) _ _ (ringsOf l) true _ HA18.out.reads.2 HA18.out.reads.1 HE18.out.reads.2 HE18.out.reads.1 HKq.out).mono ?_); rintro e w19 ⟨rfl, hd⟩; have hb := hd.below; have HX19 := Aside0.mk (HX18.out.below hb); have HA19 := Aside0.mk (HA18.out.below hb); have HB19 := Aside0.mk (HB18.out.below hb); have HC19 := Aside0.mk (HC18.out.below hb); have HD19 := Aside0.mk (HD18.out.below hb); have HE19 := Aside0.mk (HE18.out.below hb); have HF19 := Aside0.mk (HF18.out.below hb); have s19 := hb.size; clear hb hd))
  clear HX18 HA18 HB18 HC18 HD18 HE18 HF18
  go_upto_region 21 with (first | (go_at_call 17; (with_reducible refine (butlerlaw11_sameInts.calls Ko _ _ (orderOf l ks) _ _ (orderOf l ks) true _ HB19.out.reads.2 HB19.out.reads.1 HF19.out.reads.2 HF19.out.reads.1 HKo.out).mono ?_); rintro e w20 ⟨rfl, hd⟩; have hb := hd.below; have HX20 := Aside0.mk (HX19.out.below hb); have HA20 := Aside0.mk (HA19.out.below hb); have HB20 := Aside0.mk (HB19.out.below hb); have HC20 := Aside0.mk (HC19.out.below hb); have HD20 := Aside0.mk (HD19.out.below hb); have HE20 := Aside0.mk (HE19.out.below hb); have HF20 := Aside0.mk (HF19.out.below hb); have s20 := hb.size; clear hb hd))
  clear HX19 HA19 HB19 HC19 HD19 HE19 HF19
  go_upto_region 22 with (first | (go_at_call 17; (with_reducible refine (butlerlaw11_sameInts.calls Kq _ _ (ringsOf l) _ _ (ringsOf l) true _ HC20.out.reads.2 HC20.out.reads.1 HE20.out.reads.2 HE20.out.reads.1 HKq.out).mono ?_); rintro e w21 ⟨rfl, hd⟩; have hb := hd.below; have HX21 := Aside0.mk (HX20.out.below hb); have HA21 := Aside0.mk (HA20.out.below hb); have HB21 := Aside0.mk (HB20.out.below hb); have HC21 := Aside0.mk (HC20.out.below hb); have HD21 := Aside0.mk (HD20.out.below hb); have HF21 := Aside0.mk (HF20.out.below hb); have s21 := hb.size; clear hb hd))
  clear HX20 HA20 HB20 HC20 HD20 HE20 HF20
  go_upto_region 23 with (first | (go_at_call 17; (with_reducible refine (butlerlaw11_sameInts.calls Ko _ _ (orderOf l ks) _ _ (orderOf l ks) true _ HD21.out.reads.2 HD21.out.reads.1 HF21.out.reads.2 HF21.out.reads.1 HKo.out).mono ?_); rintro e w22 ⟨rfl, hd⟩; have hb := hd.below; have HX22 := Aside0.mk (HX21.out.below hb); have HA22 := Aside0.mk (HA21.out.below hb); have HB22 := Aside0.mk (HB21.out.below hb); have HC22 := Aside0.mk (HC21.out.below hb); have HD22 := Aside0.mk (HD21.out.below hb); have s22 := hb.size; clear hb hd))
  clear HX21 HA21 HB21 HC21 HD21 HF21
  have p99 := (num_cell HX22.out.row (o := ks.length) (by simp)).1
  rw [mark99] at p99
  have HX := HX22
  go_wp2
  clear p99
  go_loopg [28] (l.length + 1) (fun gk v28 wr => ∃ (i : Nat), v28 = .int .i64 i ∧ i ≤ l.length ∧ Aside0 (l.length - i < gk) ∧ Aside0 (Below w22.heap.size w22 wr))
  case atStart => exact ⟨0, rfl, by omega, ⟨by omega⟩, ⟨Below.refl _ _⟩⟩
  case round =>
    obtain ⟨i, rfl, i1, HG, HW⟩ := hrel
    by_cases hlt : i < l.length
    · have hlt' : decide ((i : Int) < (l.length : Int)) = true := decide_eq_true (by omega)
      obtain ⟨Kf1, hKf1⟩ := (Fate_ev l i).rounds
      obtain ⟨Kf2, hKf2⟩ := (refFate_ev l i).rounds
      obtain ⟨gi, gn, hgp⟩ : ∃ gi gn, fateP l i = (gi, gn) := ⟨_, _, rfl⟩
      rw [hgp] at hKf1 hKf2
      have HKf1 := Aside0.mk hKf1
      have HKf2 := Aside0.mk hKf2
      clear hKf1 hKf2 hgp
      have HY : Aside0 (Below w.heap.size w wr) := ⟨below_then HX22.out.low HX22.out.low.size HW.out⟩
      have hsw := HW.out.size
      go_wp2_with (first
        | (go_at_call 13; (with_reducible refine (recipe_Fate.calls Kf1 _ _ l (i : Int) gi gn _ (Kd.C_below HR0.out HY.out) HC0.out HKf1.out).mono ?_); rintro e x1 ⟨rfl, hb⟩; have HY1 : Aside0 (Below w.heap.size w x1) := ⟨below_then HY.out HY.out.size hb⟩; have HW1 : Aside0 (Below w22.heap.size w22 x1) := ⟨below_then HW.out hsw hb⟩; have t1 := hb.size; clear hb)
        | (go_at_call 20; (with_reducible refine (butlerref11_Fate.calls Kf2 _ _ l (i : Int) gi gn _ (Kd.C_below HR0.out HY1.out) HC0.out HKf2.out).mono ?_); rintro e x2 ⟨rfl, hb⟩; have HW2 : Aside0 (Below w22.heap.size w22 x2) := ⟨below_then HW1.out (by omega) hb⟩; clear hb))
      go_roundg (gk - 1)
      case measure => have := HG.out; omega
      case rel => exact ⟨i + 1, by go_num, by omega, ⟨by have := HG.out; omega⟩, HW2⟩
    · have hlt' : decide ((i : Int) < (l.length : Int)) = false := decide_eq_false (by omega)
      obtain ⟨b11, hb11, hl11⟩ := (HA22.out.below HW.out).row (B := w.heap.size) (by omega)
      obtain ⟨b14, hb14, hl14⟩ := (HB22.out.below HW.out).row (B := w.heap.size) (by omega)
      obtain ⟨b15, hb15, hl15⟩ := (HC22.out.below HW.out).row (B := w.heap.size) (by omega)
      obtain ⟨b16, hb16, hl16⟩ := (HD22.out.below HW.out).row (B := w.heap.size) (by omega)
      have hsw := HW.out.size
      have hrl := ringsOf_len l
      have hol := orderOf_len l ks
      obtain ⟨wl, hwl⟩ : ∃ wl, wl = wr.alloc (.cells #[.slice a11 (ringsOf l).length c11, .slice a14 (orderOf l ks).length c14, .slice a15 (ringsOf l).length c15, .slice a16 (orderOf l ks).length c16] 26) := ⟨_, rfl⟩
      have hbl : Below wr.heap.size wr wl := by rw [hwl]; exact (Below.refl _ _).alloc (Nat.le_refl _) _
      have hblk : wl.heap[wr.heap.size]? = some (.cells #[.slice a11 (ringsOf l).length c11, .slice a14 (orderOf l ks).length c14, .slice a15 (ringsOf l).length c15, .slice a16 (orderOf l ks).length c16] 26 (0, 0)) := by rw [hwl]; exact blk_new wr _
      have hcells : Aside0 (∀ j, j < 4 → wl.cell? ⟨wr.heap.size, j, none⟩ = some (.slice (at4 a11 a14 a15 a16 j) (at4 (ringsOf l).length (orderOf l ks).length (ringsOf l).length (orderOf l ks).length j) (at4 c11 c14 c15 c16 j))) :=
        ⟨all4 (by rw [blk_cell hblk]; rfl) (by rw [blk_cell hblk]; rfl) (by rw [blk_cell hblk]; rfl) (by rw [blk_cell hblk]; rfl)⟩
      have hrows : Aside0 (∀ j, j < 4 → Row wl w.heap.size (at4 a11 a14 a15 a16 j) (at4 b11 b14 b15 b16 j) (at4 (ringsOf l).length (orderOf l ks).length (ringsOf l).length (orderOf l ks).length j) (at4 c11 c14 c15 c16 j)) :=
        ⟨all4 (hb11.step fun h => hbl.block _ (hb11.lt h)) (hb14.step fun h => hbl.block _ (hb14.lt h)) (hb15.step fun h => hbl.block _ (hb15.lt h)) (hb16.step fun h => hbl.block _ (hb16.lt h))⟩
      have hap : Aside0 (Apt wr.heap.size (at4 a11 a14 a15 a16) (at4 b11 b14 b15 b16)) :=
        ⟨⟨apart4 (N := at4 w6.heap.size w8.heap.size w9.heap.size w10.heap.size) (S := at4 w7.heap.size w9.heap.size w10.heap.size w11.heap.size) (ok := fun j => at4 a11 a14 a15 a16 j ≠ none) (all4 hl11 hl14 hl15 hl16) (show w7.heap.size ≤ w8.heap.size by omega) (show w7.heap.size ≤ w9.heap.size by omega) (show w7.heap.size ≤ w10.heap.size by omega) (show w9.heap.size ≤ w9.heap.size by omega) (show w9.heap.size ≤ w10.heap.size by omega) (show w10.heap.size ≤ w10.heap.size by omega),
          all4 (fun h => by have := hb11.lt h; show b11 ≠ _; omega) (fun h => by have := hb14.lt h; show b14 ≠ _; omega) (fun h => by have := hb15.lt h; show b15 ≠ _; omega) (fun h => by have := hb16.lt h; show b16 ≠ _; omega)⟩⟩
      have hle4 : Aside0 (∀ j, j < 4 → at4 (ringsOf l).length (orderOf l ks).length (ringsOf l).length (orderOf l ks).length j ≤ 100) := ⟨all4 hrl hol hrl hol⟩
      have hlow : Aside0 (Below w.heap.size w wl) := ⟨below_then (below_then HX22.out.low HX22.out.low.size HW.out) (by have := HX22.out.low.size; omega) hbl⟩
      clear hbl hblk hb11 hb14 hb15 hb16 hl11 hl14 hl15 hl16 HA22 HB22 HC22 HD22
      go_wp2_with (go_at_call 22; rw [← hwl]; (with_reducible refine (owned_calls (B := w.heap.size) (R := wr.heap.size) wl hcells.out hrows.out hap.out hle4.out hlow.out.size).mono ?_); rintro e w' ⟨rfl, hb⟩; have HZ := Aside0.mk (hlow.out.trans hb); clear hb)
      go_ret
      exact ⟨rfl, HZ.out⟩
end Go.Proofs.Ytgahkloigbhgdaa.PR
