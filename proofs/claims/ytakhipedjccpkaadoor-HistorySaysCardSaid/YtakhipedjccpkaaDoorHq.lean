/- history.missing: what its call comes to. Conditions: at most 12 events; the number's bits are theirs. -/
import Derived.Test.YtakhipedjccpkaaDoorPHx7
import Derived.Test.YtakhipedjccpkaaDoorHs
import Derived.LoopN
namespace Go.Proofs.YtakhipedjccpkaaDoor.PH
open Go.RowKit Go.Proofs.YtakhipedjccpkaaDoorW.PrintWords Go.Proofs.YtakhipedjccpkaaDoorW.PrintLast Go.Proofs.YtakhipedjccpkaaDoorW.PrintMore
set_option linter.unusedVariables false
set_option linter.unusedSimpArgs false

/-- The events that do not stand in the order: those whose bit is not set. -/
def missTo (l : List S33) (k : Nat) : Nat → List S33
  | 0 => []
  | i + 1 => if k.testBit i then missTo l k i else missTo l k i ++ [rd_T33 l (i : Int)]
def miss (l : List S33) (k : Nat) : List S33 := missTo l k l.length
theorem missTo_len (l : List S33) (k : Nat) : ∀ i, (missTo l k i).length ≤ i
  | 0 => Nat.le_refl _
  | i + 1 => by have := missTo_len l k i; simp only [missTo]; split <;> simp <;> omega

theorem and1 (k i : Nat) (hk : k < 4096) : bits .and .i64 ((k : Int) / 2 ^ i) 1 = if k.testBit i then 1 else 0 := by
  have hq : k / 2 ^ i < 2 ^ 12 := Nat.lt_of_le_of_lt (Nat.div_le_self _ _) hk
  have := (bits_nat .i64 12 (by decide) (by intro n h0 h1; rw [IntKind.wrap_i64]; omega) (k / 2 ^ i) 1 hq (by decide)).1
  have e : ((k : Int) / 2 ^ i) = ((k / 2 ^ i : Nat) : Int) := by simp
  rw [e]
  refine this.trans ?_
  rw [Nat.and_one_is_mod, Nat.testBit_eq_decide_div_mod_eq]
  by_cases h : k / 2 ^ i % 2 = 1
  · rw [h]; simp
  · have : k / 2 ^ i % 2 = 0 := by omega
    rw [this]; simp
set_option maxHeartbeats 4000000 in
set_option maxRecDepth 100000 in
theorem missing_calls (A0 : Option Addr) (c0 : Nat) (l : List S33) (k : Nat) (w : World) (hr0 : Kd.C k33 w A0 l.length l) (hc0 : l.length ≤ c0) (hl : l.length ≤ 12) (hk : k < 4096) :
    Calls Tryd.prog 31 #[.slice A0 l.length c0, .int .i64 k] w fun e w' => ∃ v, e = .returned v ∧ Kd.R k33 33 w' w.heap.size (fun _ => True) v (miss l k) ∧ Below w.heap.size w w' := by
  have HR0 := Aside0.mk hr0
  have HC0 := Aside0.mk hc0
  clear hr0 hc0
  have HB0 := Aside0.mk (Below.refl w.heap.size w)
  go_enter Tryd.func31, Tryd.ntmps31
  go_wp2
  go_loopg [5, 10] (l.length + 1) (fun gk v5 v10 wr => ∃ (i : Nat), v10 = .int .i64 i ∧ i ≤ l.length ∧ l.length - i < gk ∧ Aside0 (Kd.R k33 33 wr w.heap.size (fun _ => True) v5 (missTo l k i)) ∧ Aside0 (Below w.heap.size w wr))
  case atStart => exact ⟨0, rfl, by omega, by omega, ⟨Kd.R_nil _ _ _ _ _⟩, HB0⟩
  case round =>
    clear HB0
    obtain ⟨i, rfl, i1, hg, HO, HB⟩ := hrel
    by_cases hlt : i < l.length
    · have hlt' : decide ((i : Int) < (l.length : Int)) = true := decide_eq_true (by omega)
      obtain ⟨ad, e1, g0, g1, g2, g3, g4, g5, g6, g7⟩ := at_T33 (Kd.C_below HR0.out HB.out) (i : Int) (by omega) (by omega)
      subst e1
      rw [Int.toNat_natCast] at g0 g1 g2 g3 g4 g5 g6 g7
      have hand := and1 k i hk
      cases hbit : k.testBit i with
      | true =>
        rw [hbit, if_pos rfl] at hand
        have hne : (bits BinOp.and IntKind.i64 (↑k / 2 ^ i) 1 == 0) = false := by rw [hand]; rfl
        go_wp2
        go_roundg (gk - 1)
        case measure => omega
        case rel =>
          refine ⟨i + 1, by go_num, by omega, by omega, ⟨?_⟩, ⟨HB.out.alloc (below_size HB.out) _⟩⟩
          rw [missTo, if_pos hbit]
          exact Kd.R_alloc HO.out _
      | false =>
        rw [hbit, if_neg (by decide)] at hand
        have hne : (bits BinOp.and IntKind.i64 (↑k / 2 ^ i) 1 == 0) = true := by rw [hand]; rfl
        go_upto_region 6 with (fail)
        go_wp2_with ((with_reducible refine gate_builtin (b := .append) (xs := #[.tmp 20, .tmp 22]) rfl ?_); at_builtin; (refine Kd.R_append k33 (w0 := w) w.heap.size rfl (.tmp 20) (.tmp 22) 22 33 (.agg #[(.int .i64 0), (.int .i64 0), (.int .i64 0), (.int .i64 0), (.int .i64 0), (.int .i64 0), (.int .i64 0), (.int .i64 0)]) 64 rfl Tryd.underlying22 info33 rfl (by decide) (by omega) u5 (missTo l k i) (rd_T33 l (i : Int)) [.int .i64 (rd_T33 l i).f0, .int .i64 (rd_T33 l i).f1, .int .i64 (rd_T33 l i).f2, .int .i64 (rd_T33 l i).f3, .int .i64 (rd_T33 l i).f4, .int .i64 (rd_T33 l i).f5, .int .i64 (rd_T33 l i).f6.f0, .int .i64 (rd_T33 l i).f6.f1] (fun _ => True) (fun _ => False) rfl (by first | (go_simp; done) | (go_simp; rfl)) (k33_mkM _ _ _ (rd_T33 l i)) (fun _ hk => hk.elim) (fun _ _ => trivial) ?aO ?aB ?aS ?aL ?_; (case aO => exact Kd.R_alloc HO.out _); (case aB => exact HB.out.alloc (below_size HB.out) _); (case aS => have := below_size HB.out; simp; omega); (case aL => have := missTo_len l k i; omega); intro v1 w1 ho hb _ _))
        go_roundg (gk - 1)
        case measure => omega
        case rel =>
          refine ⟨i + 1, by go_num, by omega, by omega, ⟨?_⟩, ⟨hb⟩⟩
          rw [missTo, if_neg (by rw [hbit]; decide)]
          exact ho
    · have hlt' : decide ((i : Int) < (l.length : Int)) = false := decide_eq_false (by omega)
      go_upto_region 8 with (fail)
      obtain rfl : i = l.length := by omega
      go_wp2
      go_ret
      exact ⟨_, rfl, HO.out, HB.out⟩
end Go.Proofs.YtakhipedjccpkaaDoor.PH
