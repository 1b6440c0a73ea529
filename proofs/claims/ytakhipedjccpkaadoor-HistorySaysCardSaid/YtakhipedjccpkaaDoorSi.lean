/- HistorySays: its walk: it returns true. Conditions: the numbers are those of an int; the events weigh no more than an input may; the library's table stands. -/
import Derived.Test.YtakhipedjccpkaaDoorSe
import Derived.Test.YtakhipedjccpkaaDoorSmb
import Derived.Test.YtakhipedjccpkaaDoorHn
import Derived.Test.YtakhipedjccpkaaDoorHv
namespace Go.Proofs.YtakhipedjccpkaaDoor.PH
open Says Go.RowKit Go.Proofs.YtakhipedjccpkaaDoorW.PrintWords Go.Proofs.YtakhipedjccpkaaDoorW.PrintLast Go.Proofs.YtakhipedjccpkaaDoorW.PrintMore
attribute [local go_sem] max2_int min2_int max_two min_two max_three min_three max_four min_four
set_option linter.unusedVariables false
set_option linter.unusedSimpArgs false

/-- The lent row in memory: its events are u's. -/
structure LentAt (w : World) (g n : Nat) (u : List S33) : Prop where
  row : Row33 w g (n + 2) (u ++ [sent (-71), sent (-72)])
  len : u.length = n
  num : Nums u
theorem LentAt.reads {w : World} {g n : Nat} {u : List S33} (h : LentAt w g n u) : Kd.C k33 w (some ⟨g, 0, none⟩) u.length u := by
  have := Kd.R_reads' (Row33.row (base := 0) (Row33.left h.row) (Nat.zero_le _))
  exact this.2.2
theorem LentAt.below {w w' : World} {g n : Nat} {u : List S33} (h : LentAt w g n u) (hb : Below w.heap.size w w') : LentAt w' g n u := ⟨h.row.below hb, h.len, h.num⟩
/-- Another answer stands in an event. -/
theorem LentAt.put {w : World} {g n : Nat} {u : List S33} (h : LentAt w g n u) {i : Nat} (hi : i < n) (y : Int) :
    LentAt (w.setCell ⟨g, i * 8 + 7, none⟩ (.int .i64 y)) g n (u.set i ⟨(rd_T33 u (i : Int)).f0, (rd_T33 u (i : Int)).f1, (rd_T33 u (i : Int)).f2, (rd_T33 u (i : Int)).f3, (rd_T33 u (i : Int)).f4, (rd_T33 u (i : Int)).f5, ⟨(rd_T33 u (i : Int)).f6.f0, y⟩⟩) := by
  have hi' : i < u.length := by rw [h.len]; exact hi
  refine ⟨?_, by simp [h.len], ?_⟩
  · rw [← List.set_append_left _ _ hi']
    exact Row33.put h.row i 7 (rd_T33 u (i : Int)) _ (.int .i64 y) (by rw [List.getElem?_append_left hi', rd33_eq u hi']; exact List.getElem?_eq_getElem hi') (by decide) rfl
  · intro e he
    rcases List.mem_or_eq_of_mem_set he with he | rfl
    · exact h.num e he
    · have := h.num _ (rd33_at u hi'); exact this
set_option maxHeartbeats 16000000 in
set_option maxRecDepth 100000 in
theorem says_calls (a0 a1 : Int) (A2 : Option Addr) (c2 : Nat) (l : List S33) (A3 : Option Addr) (c3 : Nat) (m : List S33) (w : World) (htab : Tab w) (hC : Kd.C k33 w A2 l.length l) (hc : l.length ≤ c2) (hD : Kd.C k33 w A3 m.length m) (hd : m.length ≤ c3) (h1 : I64 a1) (hn : Nums l) (hm : Nums m) (hl : l.length ≤ 2199023255552) :
    Calls Tryd.prog 3 #[.int .i64 a0, .int .i64 a1, .slice A2 l.length c2, .slice A3 m.length c3] w fun e w' => e = .returned (.bool true) ∧ Below w.heap.size w w' := by
  have HLIN : Aside0 (∀ (u : List S33), Nums u → ∀ p1 p2, linOf a0 a1 u = (p1, p2) → history_Linear.f a0 a1 u = some (p1, p2)) := ⟨fun u hu p1 p2 hp => by
    unfold history_Linear.f
    rw [if_pos ⟨h1, hu⟩, ← hp]⟩
  obtain ⟨K1, r1, hh1⟩ := heavy_some l
  obtain ⟨K2, r2, hh2⟩ := heavy_some m
  obtain ⟨p1, p2, hp⟩ : ∃ p1 p2, linOf a0 a1 l = (p1, p2) := ⟨_, _, rfl⟩
  obtain ⟨q1, q2, hq⟩ : ∃ q1 q2, linOf a0 a1 m = (q1, q2) := ⟨_, _, rfl⟩
  have HT := Aside0.mk htab
  have HC := Aside0.mk hC
  have HCc := Aside0.mk hc
  have HD := Aside0.mk hD
  have HDd := Aside0.mk hd
  have HI := Aside0.mk h1
  have HN := Aside0.mk hn
  have HNm := Aside0.mk hm
  have HH1 := Aside0.mk hh1
  have HH2 := Aside0.mk hh2
  have HP := Aside0.mk hp
  have HQ := Aside0.mk hq
  have HFP := Aside0.mk (HLIN.out l hn p1 p2 hp)
  have HFQ := Aside0.mk (HLIN.out m hm q1 q2 hq)
  clear htab hC hc hD hd h1 hn hm hh1 hh2 hp hq
  have HB := Aside0.mk (Below.refl w.heap.size w)
  go_enter Tryd.func3, Tryd.ntmps3
  go_upto_region 4 with (first
    | (go_at_call 7; (with_reducible refine (butlerlaw03_awake.calls true _ (HT.out.below HB.out) rfl).mono ?_); rintro e wa ⟨rfl, hb⟩; have n_ := Aside0.mk (below_then HB.out HB.out.size hb); clear HB; have HB := n_; clear n_ hb)
    | (go_at_call 8; (with_reducible refine (butlerlaw03_heavy.calls K1 A2 c2 l r1 _ (Kd.C_below HC.out HB.out) HCc.out HH1.out).mono ?_); rintro e wb ⟨rfl, ⟨nd, rfl⟩⟩; have n_ := Aside0.mk (pw_below_drewN HB.out nd); clear HB; have HB := n_; clear n_ HH1)
    | (go_at_call 8; (with_reducible refine (butlerlaw03_heavy.calls K2 A3 c3 m r2 _ (Kd.C_below HD.out HB.out) HDd.out HH2.out).mono ?_); rintro e wb2 ⟨rfl, ⟨nd2, rfl⟩⟩; have n_ := Aside0.mk (pw_below_drewN HB.out nd2); clear HB; have HB := n_; clear n_ HH2))
  have HB1 : Aside0 (Below w.heap.size w (wa.drewN (nd + nd2))) := ⟨by rw [← World.drewN_drewN]; exact HB.out⟩
  clear HB
  generalize wa.drewN (nd + nd2) = w1 at HB1 ⊢
  have HB := HB1
  cases r1 with
  | true =>
    clear HB1
    go_wp2
    go_ret
    exact ⟨rfl, HB.out⟩
  | false =>
    cases r2 with
    | true =>
      clear HB1
      go_wp2
      go_ret
      exact ⟨rfl, HB.out⟩
    | false =>
      have hg1 : w.heap.size ≤ w1.heap.size := HB.out.size
      have HG1 := Aside0.mk hg1
      clear HB1 hg1
      obtain ⟨g, hg⟩ : ∃ g, g = w1.heap.size := ⟨_, rfl⟩
      have HLENT : Aside0 (Calls Tryd.prog 9 #[.slice A2 l.length c2] w1 fun e w' => e = .returned (.slice (some ⟨g, 0, none⟩) l.length (l.length + 2)) ∧ LentAt w' g l.length l ∧ Below w1.heap.size w1 w') := ⟨(lent_ref A2 c2 l w1 (Kd.C_below HC.out HB.out) hl).mono fun e w' ⟨h1, h2, h3⟩ => ⟨by rw [hg]; exact h1, by rw [hg]; exact ⟨h2, rfl, HN.out⟩, h3⟩⟩
      rw [← hg] at HG1
      clear hg
      go_upto_region 13 with (first
        | (go_at_call 9; (with_reducible refine HLENT.out.mono ?_); rintro e wl ⟨rfl, hrow, hb⟩; have HL := Aside0.mk hrow; have n_ := Aside0.mk (below_then HB.out HB.out.size hb); clear HB; have HB := n_; clear n_ hb hrow)
        | (go_at_call 10; (with_reducible refine (history_Linear.calls a0 a1 (some ⟨g, 0, none⟩) (l.length + 2) l p1 p2 _ (HT.out.below HB.out) HL.out.reads (Nat.le_add_right _ _) HFP.out).mono ?_); rintro e wc ⟨rfl, hb⟩; have m_ := Aside0.mk (HL.out.below hb); have n_ := Aside0.mk (below_then HB.out HB.out.size hb); clear HB HL; have HB := n_; have HL := m_; clear n_ m_ hb)
        | (go_at_call 10; (with_reducible refine (history_Linear.calls a0 a1 A3 c3 m q1 q2 _ (HT.out.below HB.out) (Kd.C_below HD.out HB.out) HDd.out HFQ.out).mono ?_); rintro e wc ⟨rfl, hb⟩; have m_ := Aside0.mk (HL.out.below hb); have n_ := Aside0.mk (below_then HB.out HB.out.size hb); clear HB HL; have HB := n_; have HL := m_; clear n_ m_ hb)
        | (go_at_call 11; (with_reducible refine (slin_calls a0 a1 A2 c2 l p1 p2 _ (Kd.C_below HC.out HB.out) HCc.out HI.out HN.out HP.out).mono ?_); rintro e wc ⟨rfl, hb⟩; have m_ := Aside0.mk (HL.out.below hb); have n_ := Aside0.mk (below_then HB.out HB.out.size hb); clear HB HL; have HB := n_; have HL := m_; clear n_ m_ hb)
        | (go_at_call 11; (with_reducible refine (slin_calls a0 a1 A3 c3 m q1 q2 _ (Kd.C_below HD.out HB.out) HDd.out HI.out HNm.out HQ.out).mono ?_); rintro e wc ⟨rfl, hb⟩; have m_ := Aside0.mk (HL.out.below hb); have n_ := Aside0.mk (below_then HB.out HB.out.size hb); clear HB HL; have HB := n_; have HL := m_; clear n_ m_ hb)
        | (go_at_call 12; (with_reducible refine (kept_ref g c2 A2 l _ HL.out.row (Kd.C_below HC.out HB.out) hl).mono ?_); rintro e wk ⟨rfl, nk, rfl⟩; have m_ := Aside0.mk (HL.out.below (pw_below_drewN (Below.refl _ _) nk)); have n_ := Aside0.mk (pw_below_drewN HB.out nk); clear HB HL; have HB := n_; have HL := m_; clear n_ m_))
      have e1 : (p1 != p1) = false := bne_self_eq_false p1
      have e2 : (p2 != p2) = false := bne_self_eq_false p2
      have e3 : (q1 != q1) = false := bne_self_eq_false q1
      have e4 : (q2 != q2) = false := bne_self_eq_false q2
      go_upto_block 0 with (fail)
      generalize wc.drewN nk = w2 at HB HL ⊢
      go_cut [24] (fun v24 wz => ∃ (u : List S33), Aside0 (LentAt wz g l.length u) ∧ Aside0 (Below w.heap.size w wz))
      case first =>
        go_wp2
        go_loopg [24] (l.length + 1) (fun gk v24 wr => ∃ (i : Nat) (u : List S33), v24 = .int .i64 i ∧ i ≤ l.length ∧ l.length - i < gk ∧ Aside0 (LentAt wr g l.length u) ∧ Aside0 (Below w.heap.size w wr))
        case atStart => exact ⟨0, l, rfl, by omega, by omega, HL, HB⟩
        case round =>
          clear HL HB
          obtain ⟨i, u, rfl, il, hgk, HL, HB⟩ := hrel
          by_cases hi : i < l.length
          · have hi' : decide ((i : Int) < (l.length : Int)) = true := decide_eq_true (by omega)
            have hi1 : (i : Int) < (l.length : Int) := by omega
            have hiu : i < u.length := by rw [HL.out.len]; exact hi
            obtain ⟨⟨k0, k1, k2, k3, k4, k5, k6, k7⟩, ⟨f0, f1, f2, f3, f4, f5, f6, f7⟩⟩ := row_cells HL.out.row (i := i) (y := rd_T33 u (i : Int)) (by simp; omega) (by rw [rd33_eq _ (by simp; omega), rd33_eq _ hiu, List.getElem_append_left hiu])
            clear k0 k1 k2 k3 k4 k5 k6 f0 f1 f2 f3 f4 f5 f6 hiu
            go_wp2
            go_roundg (gk - 1)
            case measure => omega
            case rel => exact ⟨i + 1, _, by go_num, by omega, by omega, ⟨HL.out.put hi _⟩, ⟨HB.out.setCell (p := ⟨g, i * 8 + 7, none⟩) HG1.out _⟩⟩
          · have hi' : decide ((i : Int) < (l.length : Int)) = false := decide_eq_false (by omega)
            go_wp2
            go_meet
            case rel => exact ⟨u, HL, HB⟩
      case rest =>
        clear HL HB
        obtain ⟨u, HL, HB⟩ := hcut
        obtain ⟨s1, s2, hs⟩ : ∃ s1 s2, linOf a0 a1 u = (s1, s2) := ⟨_, _, rfl⟩
        have HS := Aside0.mk hs
        have HFS := Aside0.mk (HLIN.out u HL.out.num s1 s2 hs)
        have HNU := Aside0.mk HL.out.num
        have HLE := Aside0.mk HL.out.len
        have HC10 : Aside0 (∀ W, Tab W → LentAt W g l.length u → Calls Tryd.prog 10 #[.int .i64 a0, .int .i64 a1, .slice (some ⟨g, 0, none⟩) l.length (l.length + 2)] W fun e w' => e = .returned (.tuple #[.bool s1, .int .i64 s2]) ∧ Below W.heap.size W w') := ⟨fun W hT hL => by
          have := history_Linear.calls a0 a1 (some ⟨g, 0, none⟩) (l.length + 2) u s1 s2 W hT hL.reads (by rw [HLE.out]; omega) HFS.out
          rw [HLE.out] at this
          exact this⟩
        have HC11 : Aside0 (∀ W, LentAt W g l.length u → Calls Tryd.prog 11 #[.int .i64 a0, .int .i64 a1, .slice (some ⟨g, 0, none⟩) l.length (l.length + 2)] W fun e w' => e = .returned (.tuple #[.bool s1, .int .i64 s2]) ∧ Below W.heap.size W w') := ⟨fun W hL => by
          have := slin_calls a0 a1 (some ⟨g, 0, none⟩) (l.length + 2) u s1 s2 W hL.reads (by rw [HLE.out]; omega) HI.out HNU.out HS.out
          rw [HLE.out] at this
          exact this⟩
        clear hs e1 e2 e3 e4
        have e1 : (s1 == s1) = true := beq_self_eq_true s1
        have e2 : (s2 == s2) = true := beq_self_eq_true s2
        go_wp2_with (first
          | (go_at_call 10; (with_reducible refine (HC10.out _ (HT.out.below HB.out) HL.out).mono ?_); rintro e wc ⟨rfl, hb⟩; have m_ := Aside0.mk (HL.out.below hb); have n_ := Aside0.mk (below_then HB.out HB.out.size hb); clear HB HL; have HB := n_; have HL := m_; clear n_ m_ hb)
          | (go_at_call 11; (with_reducible refine (HC11.out _ HL.out).mono ?_); rintro e wc2 ⟨rfl, hb⟩; have m_ := Aside0.mk (HL.out.below hb); have n_ := Aside0.mk (below_then HB.out HB.out.size hb); clear HB HL; have HB := n_; have HL := m_; clear n_ m_ hb))
        go_ret
        exact ⟨by simp, HB.out⟩
end Go.Proofs.YtakhipedjccpkaaDoor.PH
