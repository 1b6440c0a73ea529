/- The document's search: what goes tells. Conditions: at most twelve events; the numbers are those of an int. -/
import Derived.Test.YtakhipedjccpkaaDoorSma
import Derived.BigQuiet
import Derived.StillTailTactics
namespace Go.Proofs.YtakhipedjccpkaaDoor.PH
open Says Go.RowKit Go.Proofs.YtakhipedjccpkaaDoorW.PrintWords Go.Proofs.YtakhipedjccpkaaDoorW.PrintLast Go.Proofs.YtakhipedjccpkaaDoorW.PrintMore
attribute [local go_sem] max2_int min2_int max_two min_two max_three min_three max_four min_four
set_option linter.unusedVariables false
set_option linter.unusedSimpArgs false

structure RPost (n : Int) (l : List S33) (w0 : World) (bm N k : Nat) (s : List Int) (arr : Array Value) (M : Met) (cnt : Nat) (w : World) (e : Ending) (w' : World) : Prop where
  out : ∃ r arr' M' cnt', e = .returned (.bool r) ∧ MetAt w' w0.heap.size bm N arr' M' ∧ Only bm arr arr' w w' ∧ Below w0.heap.size w0 w' ∧ (∀ k, (M' k).length ≤ cnt') ∧ cnt' ≤ cnt + tries (miss l k).length ∧ (r = true → Gs n l k s) ∧ (r = false → ¬ Gs n l k s ∧ GrM n l M M')
/-- An element of a row of states. -/
theorem row_elem {w : World} {base c : Nat} {ok : Nat → Prop} {A : Option Addr} {L : List (List Int)} (h : Kd.N kS 47 w base ok (.slice A L.length c) L) {q : Nat} (hq : q < L.length) : ∃ ad B d, A = some ad ∧ w.cell? (ad.add q) = some (.slice B L[q].length d) ∧ Kd.C (Kd.int .i64) w B L[q].length L[q] := by
  obtain ⟨ad, he, hc⟩ := (Kd.N_reads' h).2.2.2.2 (by omega)
  obtain ⟨cs, h1, ⟨B, d, h2, h3, h4⟩, h5⟩ := hc q L[q] (List.getElem?_eq_getElem hq)
  refine ⟨ad, B, d, he, ?_, h4⟩
  have := h5 0 (.slice B L[q].length d) (by rw [h2]; rfl)
  rw [show kS.sz = 1 from rfl, Nat.mul_one, Nat.add_zero] at this
  exact this
theorem left_iff (l : List S33) (k : Nat) : (∃ j < l.length, k.testBit j = false ∧ (rd_T33 l (j : Int)).f5 ≠ -1) ↔ ¬ ∀ e ∈ miss l k, e.f5 = -1 := by
  constructor
  · rintro ⟨j, hj, hb, h5⟩ h
    exact h5 (h _ (mem_miss.2 ⟨j, hj, hb, rfl⟩))
  · intro h
    refine Classical.byContradiction fun hn => h fun e he => ?_
    obtain ⟨j, hj, hb, rfl⟩ := mem_miss.1 he
    exact Classical.byContradiction fun h5 => hn ⟨j, hj, hb, h5⟩
def LeftI (l : List S33) (k i : Nat) (b : Bool) : Prop := b = true ↔ ∃ j < i, k.testBit j = false ∧ (rd_T33 l (j : Int)).f5 ≠ -1
theorem info47 : (Tryd.prog.info? 47).map (fun i => (i.zero, i.size, i.bytes)) = some (some (.slice none 0 0), 1, 24) := by kernel_rfl
set_option maxHeartbeats 16000000 in
set_option maxRecDepth 100000 in
theorem sgoes_calls {n start : Int} {l : List S33} {w0 : World} {A : Option Addr} {c bx bm : Nat} (hlen : l.length ≤ 12) (hc : l.length ≤ c) (hnum : ∀ e ∈ l, I64 e.f2 ∧ I64 e.f3) (hL : Kd.C k33 w0 A l.length l) : ∀ (m k : Nat) (s : List Int) (As : Option Addr) (cs : Nat) (arr : Array Value) (M : Met) (cnt : Nat) (w : World),
    (miss l k).length = m → k < 2 ^ l.length → Sok n m s → Flags n start s → Kd.V (Kd.int .i64) 3 w 0 (Avoid bm arr) (.slice As s.length cs) s → SX n start l A c bx bm (2 ^ l.length) w → Avoid bm arr bx → MetAt w w0.heap.size bm (2 ^ l.length) arr M → Below w0.heap.size w0 w →
    (∀ k, (M k).length ≤ cnt) → cnt + tries m ≤ 5000000000000 → MV n l M m →
    Calls Tryd.prog 33 #[.pointer (some ⟨bx, 0, none⟩), .int .i64 k, .slice As s.length cs] w (RPost n l w0 bm (2 ^ l.length) k s arr M cnt w) := by
  intro m
  induction m using Nat.strongRecOn with
  | ind m ih =>
    intro k s As cs arr M cnt w hm hk hs hf hV hX hax hM hB hcl hcnt hK
    have hN : 2 ^ l.length ≤ 4096 := Nat.pow_le_pow_right (by decide) hlen (n := 2)
    have hk4 : k < 4096 := by omega
    have HX := Aside0.mk hX
    have HL := Aside0.mk hL
    have HM := Aside0.mk hM
    have HB := Aside0.mk hB
    have HV := Aside0.mk hV
    have HS := Aside0.mk hs
    have HF := Aside0.mk hf
    have HAX := Aside0.mk hax
    have HCL := Aside0.mk hcl
    have HK := Aside0.mk hK
    have HML := Aside0.mk hm
    have IH := Aside0.mk ih
    have HNU := Aside0.mk hnum
    have HCN := Aside0.mk hcnt
    obtain ⟨NN, hNN⟩ : ∃ NN, NN = 2 ^ l.length := ⟨_, rfl⟩
    rw [← hNN] at HX HM hk hN
    rw [← hNN]
    have HNN := Aside0.mk hNN
    have hkN : (k : Int) < (NN : Int) := by omega
    have hk0 : (0 : Int) ≤ (k : Int) := Int.natCast_nonneg _
    have c0 := HX.out.cells
    obtain ⟨c0, c1, c2, c3⟩ := c0
    clear hX hM hB hV hs hf hax hcl hK hm ih hnum hL hcnt hNN
    go_enter Tryd.func33, Tryd.ntmps33
    go_upto_block 0 with (fail)
    go_cut [7] (fun v7 wc => ∃ b : Bool, v7 = .bool b ∧ w = wc ∧ Aside0 (b = true ↔ ¬ ∀ e ∈ miss l k, e.f5 = -1))
    case first =>
      go_wp2
      go_loopg [7, 8] (l.length + 1) (fun gk v7 v8 wr => ∃ (i : Nat) (b : Bool), v7 = .bool b ∧ v8 = .int .i64 i ∧ i ≤ l.length ∧ l.length - i < gk ∧ wr = w ∧ Aside0 (LeftI l k i b))
      case atStart => exact ⟨0, false, rfl, rfl, by omega, by omega, rfl, ⟨by unfold LeftI; simp⟩⟩
      case round =>
        obtain ⟨i, b, rfl, rfl, il, hgk, rfl, HBI⟩ := hrel
        by_cases hi : i < l.length
        · have hi' : decide ((i : Int) < (l.length : Int)) = true := decide_eq_true (by omega)
          have hi1 : (i : Int) < (l.length : Int) := by omega
          have i12 : i ≤ 12 := by omega
          cases b with
          | true =>
            have HBN : Aside0 (LeftI l k (i + 1) true) := ⟨⟨fun _ => by obtain ⟨j, h1, h2⟩ := HBI.out.1 rfl; exact ⟨j, by omega, h2⟩, fun _ => rfl⟩⟩
            go_wp2
            go_roundg (gk - 1)
            case measure => omega
            case rel => exact ⟨i + 1, true, rfl, by go_num, by omega, by omega, rfl, HBN⟩
          | false =>
            have hno : ¬ ∃ j < i, k.testBit j = false ∧ (rd_T33 l (j : Int)).f5 ≠ -1 := fun h => by have := HBI.out.2 h; cases this
            obtain ⟨ad, ea, x0, x1, x2, x3, x4, x5, x6, x7⟩ := at_T33 (Kd.C_below HL.out HB.out) (i : Int) (by omega) (by omega)
            subst ea
            rw [Int.toNat_natCast] at x5
            clear x0 x1 x2 x3 x4 x6 x7
            obtain ⟨x, hx⟩ : ∃ x, x = (rd_T33 l (i : Int)).f5 := ⟨_, rfl⟩
            rw [← hx] at x5
            by_cases h5 : x = -1
            · have h5' : (x != -1) = false := bne_eq_false_iff_eq.mpr h5
              have HBN : Aside0 (LeftI l k (i + 1) false) := ⟨⟨(fun h => by cases h), fun ⟨j, h1, h2, h3⟩ => by
                rcases Nat.lt_or_ge j i with h | h
                · exact absurd ⟨j, h, h2, h3⟩ hno
                · obtain rfl : j = i := by omega
                  rw [← hx] at h3; exact absurd h5 h3⟩⟩
              clear h5 hx hno
              go_wp2
              go_roundg (gk - 1)
              case measure => omega
              case rel => exact ⟨i + 1, false, rfl, by go_num, by omega, by omega, rfl, HBN⟩
            · have h5' : (x != -1) = true := bne_iff_ne.mpr h5
              have hand := and1 k i hk4
              cases hbit : k.testBit i with
              | true =>
                rw [hbit, if_pos rfl] at hand
                have hne : (bits BinOp.and IntKind.i64 (↑k / 2 ^ i) 1 == 0) = false := by rw [hand]; rfl
                have HBN : Aside0 (LeftI l k (i + 1) false) := ⟨⟨(fun h => by cases h), fun ⟨j, h1, h2, h3⟩ => by
                  rcases Nat.lt_or_ge j i with h | h
                  · exact absurd ⟨j, h, h2, h3⟩ hno
                  · obtain rfl : j = i := by omega
                    rw [hbit] at h2; cases h2⟩⟩
                clear h5 hx hno hbit
                go_wp2
                go_roundg (gk - 1)
                case measure => omega
                case rel => exact ⟨i + 1, false, rfl, by go_num, by omega, by omega, rfl, HBN⟩
              | false =>
                rw [hbit, if_neg (by decide)] at hand
                have hne : (bits BinOp.and IntKind.i64 (↑k / 2 ^ i) 1 == 0) = true := by rw [hand]; rfl
                have HBN : Aside0 (LeftI l k (i + 1) true) := ⟨⟨fun _ => ⟨i, by omega, hbit, by rw [← hx]; exact h5⟩, fun _ => rfl⟩⟩
                clear h5 hx hno hbit
                go_wp2
                go_roundg (gk - 1)
                case measure => omega
                case rel => exact ⟨i + 1, true, rfl, by go_num, by omega, by omega, rfl, HBN⟩
        · have hi' : decide ((i : Int) < (l.length : Int)) = false := decide_eq_false (by omega)
          obtain rfl : i = l.length := by omega
          have HBN : Aside0 (b = true ↔ ¬ ∀ e ∈ miss l k, e.f5 = -1) := ⟨HBI.out.trans (left_iff l k)⟩
          go_wp2
          go_meet
          case rel => exact ⟨b, rfl, rfl, HBN⟩
    case rest =>
      obtain ⟨b, rfl, rfl, HBI⟩ := hcut
      cases b with
      | false =>
        have hd : ∀ e ∈ miss l k, e.f5 = -1 := by
          refine Classical.byContradiction fun h => ?_
          have := HBI.out.2 h
          cases this
        have HG : Aside0 (Gs n l k s) := ⟨.done hd⟩
        clear hd
        go_wp2
        go_ret
        exact ⟨true, arr, M, cnt, rfl, HM.out, Only.refl _ _ _, HB.out, HCL.out, Nat.le_add_right _ _, fun _ => HG.out, fun h => by cases h⟩
      | true =>
        have HD : Aside0 (¬ ∀ e ∈ miss l k, e.f5 = -1) := ⟨HBI.out.1 rfl⟩
        clear HBI
        have hmp : 0 < m := by
          rcases Nat.eq_zero_or_pos m with h | h
          · refine absurd (fun e he => ?_) HD.out
            rw [List.eq_nil_of_length_eq_zero (HML.out.trans h)] at he
            cases he
          · exact h
        obtain ⟨m', rfl⟩ : ∃ m', m = m' + 1 := ⟨m - 1, by omega⟩
        clear hmp
        obtain ⟨v, hv, hNk⟩ := HM.out.row k hk
        obtain ⟨Ak, ck, ev⟩ := Kd.N_slice hNk
        subst ev
        have HNK := Aside0.mk hNk
        have HVK := Aside0.mk hv
        have cb : w.cell? ⟨bm, k, none⟩ = some (.slice Ak (M k).length ck) := (blk_cell HM.out.blk k).trans hv
        have hcm := (HCL.out k)
        have HTI : Aside0 (cnt + 1 + 2 * (m' + 1) * tries m' = cnt + tries (m' + 1) ∧ tries m' ≥ 1) := ⟨⟨by simp only [tries]; omega, tries_pos m'⟩⟩
        have hcm2 : (M k).length ≤ 5000000000000 := by have := HCN.out; omega
        clear hv hNk hcm
        go_upto_block 2 with (fail)
        go_cut [9] (fun v9 wc => ∃ n, wc = w.drewN n ∧ Aside0 (s ∉ M k))
        case first =>
          go_wp2
          go_loopg [9] ((M k).length + 1) (fun gk v9 wr => ∃ q n : Nat, v9 = .int .i64 q ∧ q ≤ (M k).length ∧ (M k).length - q < gk ∧ wr = w.drewN n ∧ Aside0 (s ∉ (M k).take q))
          case atStart => exact ⟨0, 0, rfl, by omega, by omega, rfl, ⟨by simp⟩⟩
          case round =>
            obtain ⟨q, n', rfl, ql, hgk, rfl, HNI⟩ := hrel
            by_cases hq : q < (M k).length
            · have hq' : decide ((q : Int) < ((M k).length : Int)) = true := decide_eq_true (by omega)
              have hq1 : (q : Int) < ((M k).length : Int) := by omega
              have hq0 : (0 : Int) ≤ (q : Int) := Int.natCast_nonneg _
              obtain ⟨ad, B, d, ea, xe, hCx⟩ := row_elem HNK.out hq
              subst ea
              have HTK : Aside0 ((M k).take (q + 1) = (M k).take q ++ [(M k)[q]]) := ⟨by rw [List.take_succ_eq_append_getElem hq]⟩
              have HMK : Aside0 ((M k)[q] ∈ M k) := ⟨List.getElem_mem hq⟩
              obtain ⟨x, hx⟩ : ∃ x, x = (M k)[q] := ⟨_, rfl⟩
              rw [← hx] at xe hCx HTK HMK
              have HCX := Aside0.mk hCx
              have HSM : Aside0 (∀ n, Calls Tryd.prog 49 #[.slice B x.length d, .slice As s.length cs] (w.drewN n) fun e w' => e = .returned (.bool (decide (x = s))) ∧ ∃ m, w' = (w.drewN n).drewN m) := ⟨fun n => same_ref B As d cs x s _ (Kd.C_below HCX.out (pw_below_drewN (Below.refl _ _) n)) (Kd.C_below (Kd.V_reads' HV.out).2.2 (pw_below_drewN (Below.refl _ _) n)) (by have := HS.out.short; omega)⟩
              clear hx hCx
              obtain ⟨bb, hbb⟩ : ∃ bb, bb = decide (x = s) := ⟨_, rfl⟩
              rw [← hbb] at HSM
              have HBB := Aside0.mk hbb
              clear hbb
              cases bb with
              | true =>
                have HNO : Aside0 (¬ Gs n l k s) := ⟨HK.out k s (Nat.le_of_eq HML.out) (by rw [← of_decide_eq_true HBB.out.symm]; exact HMK.out)⟩
                go_upto_region 12 with (go_at_call 49; (with_reducible refine (HSM.out _).mono ?_); rintro e3 w3 ⟨rfl, n3, rfl⟩)
                go_wp2
                go_ret
                exact ⟨false, arr, M, cnt, rfl, HM.out.below (pw_below_drewN (Below.refl _ _) _), Only.of_below (pw_below_drewN (Below.refl _ _) _), pw_below_drewN HB.out _, HCL.out, Nat.le_add_right _ _, (fun h => by cases h), fun _ => ⟨HNO.out, GrM.refl _ _ _⟩⟩
              | false =>
                have HNN2 : Aside0 (s ∉ (M k).take (q + 1)) := ⟨by
                  rw [HTK.out, List.mem_append]
                  rintro (h | h)
                  · exact HNI.out h
                  · simp at h; exact of_decide_eq_false HBB.out.symm h.symm⟩
                go_upto_region 12 with (go_at_call 49; (with_reducible refine (HSM.out _).mono ?_); rintro e3 w3 ⟨rfl, n3, rfl⟩)
                go_wp2
                go_roundg (gk - 1)
                case measure => omega
                case rel => exact ⟨q + 1, n' + n3, by go_num, by omega, by omega, rfl, HNN2⟩
            · have hq' : decide ((q : Int) < ((M k).length : Int)) = false := decide_eq_false (by omega)
              obtain rfl : q = (M k).length := by omega
              rw [List.take_length] at HNI
              go_wp2
              go_meet
              case rel => exact ⟨n', rfl, HNI⟩
        case rest =>
          obtain ⟨nd, rfl, HNI⟩ := hcut
          go_upto_region 14 with (fail)
          -- REGION14
          refine start_ (n := 17) (S := fun w' => w'.cell? ⟨bx, 3, none⟩ = some (.slice (some ⟨bm, 0, none⟩) NN NN) ∧ w'.cell? ⟨bm, k, none⟩ = some (.slice Ak (M k).length ck)) (ds := [16]) #[false, false, false, false, false, false, false, false, false, false, false, false, false, false, false, false, false] (by kernel_rfl) rfl rfl ⟨c3, cb⟩ (fun hHeld => ?_)
          have HBW : Aside0 (Below w.heap.size w (w.drewN nd).drew) := ⟨below_drew1 (pw_below_drewN (Below.refl _ _) nd)⟩
          generalize (w.drewN nd).drew = W at HBW hHeld ⊢
          have HFW : Aside0 (∀ b, W.heap.size ≤ b → Rk bm arr k b) := ⟨fun b hb => have := HM.out.new (Nat.le_trans HBW.out.size hb); ⟨this.1, fun j v _ h => this.2 j v h⟩⟩
          have HAV : Aside0 (∀ b, Avoid bm arr b → Rk bm arr k b ∧ some b ≠ (Value.slice Ak (M k).length ck).ownBlock) := ⟨fun b h => ⟨⟨h.1, fun j v _ hj => h.2 j v hj⟩, fun e => h.2 k _ HVK.out e.symm⟩⟩
          have HNX : Aside0 (some bx ≠ (Value.slice Ak (M k).length ck).ownBlock) := ⟨(HAV.out _ HAX.out).2⟩
          have HNM : Aside0 (some bm ≠ (Value.slice Ak (M k).length ck).ownBlock) := ⟨fun e => (HNK.out.1 bm e.symm).1 rfl⟩
          have HHW := Aside0.mk hHeld
          refine pure_ (i := 0) (N := some 71) (v := ?_) (a' := ?_) #[true, false, false, false, false, false, false, false, false, false, false, false, false, false, false, false, false] rfl rfl (by kernel_rfl) (fun _ _ _ h => h) (Or.inl ⟨by rfl, ?_⟩) ?_ ?_
          rotate_left
          ·intro w'
           go_simp
           with_reducible rfl
          rotate_left
          ·simp only [Act.put, List.setIfInBounds_toArray, List.set_cons_zero, List.set_cons_succ, i64_w, i32_w]
           rfl
          refine pure_ (i := 1) (N := some 72) (v := ?_) (a' := ?_) #[true, true, false, false, false, false, false, false, false, false, false, false, false, false, false, false, false] rfl rfl (by kernel_rfl) (fun _ _ _ h => h) (Or.inl ⟨by rfl, ?_⟩) ?_ ?_
          rotate_left
          ·intro w'
           go_simp
           with_reducible rfl
          rotate_left
          ·simp only [Act.put, List.setIfInBounds_toArray, List.set_cons_zero, List.set_cons_succ, i64_w, i32_w]
           rfl
          refine pure_ (i := 2) (N := some 73) (v := ?_) (a' := ?_) #[true, true, true, false, false, false, false, false, false, false, false, false, false, false, false, false, false] rfl rfl (by kernel_rfl) (fun _ _ _ h => h) (Or.inl ⟨by rfl, ?_⟩) ?_ ?_
          rotate_left
          ·intro w'
           go_simp
           with_reducible rfl
          rotate_left
          ·simp only [Act.put, List.setIfInBounds_toArray, List.set_cons_zero, List.set_cons_succ, i64_w, i32_w]
           rfl
          refine take_ (i := 3) (N := some 74) (v := ?_) (a' := ?_) #[true, true, true, true, false, false, false, false, false, false, false, false, false, false, false, false, false] rfl rfl (by kernel_rfl) (fun _ _ _ h => h) (Or.inl ⟨by rfl, ?_⟩) hHeld ?_ ?_
          rotate_left
          ·rintro w' ⟨s0, s1⟩
           go_simp
           with_reducible rfl
          rotate_left
          ·simp only [Act.put, List.setIfInBounds_toArray, List.set_cons_zero, List.set_cons_succ, i64_w, i32_w]
           rfl
          refine pure_ (i := 4) (N := some 75) (v := ?_) (a' := ?_) #[true, true, true, true, true, false, false, false, false, false, false, false, false, false, false, false, false] rfl rfl (by kernel_rfl) (fun _ _ _ h => h) (Or.inl ⟨by rfl, ?_⟩) ?_ ?_
          rotate_left
          ·intro w'
           go_simp
           with_reducible rfl
          rotate_left
          ·simp only [Act.put, List.setIfInBounds_toArray, List.set_cons_zero, List.set_cons_succ, i64_w, i32_w]
           rfl
          refine pure_ (i := 5) (N := some 76) (v := ?_) (a' := ?_) #[true, true, true, true, true, true, false, false, false, false, false, false, false, false, false, false, false] rfl rfl (by kernel_rfl) (fun _ _ _ h => h) (Or.inl ⟨by rfl, ?_⟩) ?_ ?_
          rotate_left
          ·intro w'
           go_simp
           with_reducible rfl
          rotate_left
          ·simp only [Act.put, List.setIfInBounds_toArray, List.set_cons_zero, List.set_cons_succ, i64_w, i32_w]
           rfl
          refine pure_ (i := 6) (N := some 77) (v := ?_) (a' := ?_) #[true, true, true, true, true, true, true, false, false, false, false, false, false, false, false, false, false] rfl rfl (by kernel_rfl) (fun _ _ _ h => h) (Or.inl ⟨by rfl, ?_⟩) ?_ ?_
          rotate_left
          ·intro w'
           go_simp
           with_reducible rfl
          rotate_left
          ·simp only [Act.put, List.setIfInBounds_toArray, List.set_cons_zero, List.set_cons_succ, i64_w, i32_w]
           rfl
          refine pure_ (i := 7) (N := some 78) (v := ?_) (a' := ?_) #[true, true, true, true, true, true, true, true, false, false, false, false, false, false, false, false, false] rfl rfl (by kernel_rfl) (fun _ _ _ h => h) (Or.inl ⟨by rfl, ?_⟩) ?_ ?_
          rotate_left
          ·intro w'
           go_simp
           with_reducible rfl
          rotate_left
          ·simp only [Act.put, List.setIfInBounds_toArray, List.set_cons_zero, List.set_cons_succ, i64_w, i32_w]
           rfl
          refine take_ (i := 8) (N := some 79) (v := ?_) (a' := ?_) #[true, true, true, true, true, true, true, true, true, false, false, false, false, false, false, false, false] rfl rfl (by kernel_rfl) (fun _ _ _ h => h) (Or.inl ⟨by rfl, ?_⟩) hHeld ?_ ?_
          rotate_left
          ·rintro w' ⟨s0, s1⟩
           go_simp
           with_reducible rfl
          rotate_left
          ·simp only [Act.put, List.setIfInBounds_toArray, List.set_cons_zero, List.set_cons_succ, i64_w, i32_w]
           rfl
          refine pure_ (i := 9) (N := some 80) (v := ?_) (a' := ?_) #[true, true, true, true, true, true, true, true, true, true, false, false, false, false, false, false, false] rfl rfl (by kernel_rfl) (fun _ _ _ h => h) (Or.inl ⟨by rfl, ?_⟩) ?_ ?_
          rotate_left
          ·intro w'
           go_simp
           with_reducible rfl
          rotate_left
          ·simp only [Act.put, List.setIfInBounds_toArray, List.set_cons_zero, List.set_cons_succ, i64_w, i32_w]
           rfl
          refine pure_ (i := 10) (N := some 81) (v := ?_) (a' := ?_) #[true, true, true, true, true, true, true, true, true, true, true, false, false, false, false, false, false] rfl rfl (by kernel_rfl) (fun _ _ _ h => h) (Or.inl ⟨by rfl, ?_⟩) ?_ ?_
          rotate_left
          ·intro w'
           go_simp
           with_reducible rfl
          rotate_left
          ·simp only [Act.put, List.setIfInBounds_toArray, List.set_cons_zero, List.set_cons_succ, i64_w, i32_w]
           rfl
          refine take_ (i := 11) (N := some 82) (v := ?_) (a' := ?_) #[true, true, true, true, true, true, true, true, true, true, true, true, false, false, false, false, false] rfl rfl (by kernel_rfl) (fun _ _ _ h => h) (Or.inl ⟨by rfl, ?_⟩) hHeld ?_ ?_
          rotate_left
          ·rintro w' ⟨s0, s1⟩
           go_simp
           with_reducible rfl
          rotate_left
          ·simp only [Act.put, List.setIfInBounds_toArray, List.set_cons_zero, List.set_cons_succ, i64_w, i32_w]
           rfl
          refine pure_ (i := 12) (N := some 83) (v := ?_) (a' := ?_) #[true, true, true, true, true, true, true, true, true, true, true, true, true, false, false, false, false] rfl rfl (by kernel_rfl) (fun _ _ _ h => h) (Or.inl ⟨by rfl, ?_⟩) ?_ ?_
          rotate_left
          ·intro w'
           go_simp
           with_reducible rfl
          rotate_left
          ·simp only [Act.put, List.setIfInBounds_toArray, List.set_cons_zero, List.set_cons_succ, i64_w, i32_w]
           rfl
          refine one_ (i := 13) (N := some 84) #[true, true, true, true, true, true, true, true, true, true, true, true, true, true, false, false, false] rfl rfl (by kernel_rfl) (by decide) (fun K hK => ?_)
          refine value_ (w1 := ?_) (v := ?_) (by rfl) rfl ?_ ?_
          rotate_left 2
          ·go_simp
           constructor
           ·rfl
           ·rfl
          refine hK.out _ _ ⟨pw_cell_below (below_alloc (Below.refl _ _) _) hHeld.1, pw_cell_below (below_alloc (Below.refl _ _) _) hHeld.2⟩ (fun hHeld => ?_)
          clear hK K
          refine norm_ (a' := ?_) ?_ ?_
          rotate_left
          ·show Act.put _ (some 84) _ = _
           simp only [Act.put, List.setIfInBounds_toArray, List.set_cons_zero, List.set_cons_succ, i64_w, i32_w]
           rfl
          refine one_ (i := 14) (N := some 85) #[true, true, true, true, true, true, true, true, true, true, true, true, true, true, true, false, false] rfl rfl (by kernel_rfl) (by decide) (fun K hK => ?_)
          refine Kd.N_append_step kS (w0 := w0) w0.heap.size (by rfl) (.tmp 82) (.tmp 84) 85 47 (.slice none 0 0) 24 rfl Tryd.underlying85 info47 rfl (by decide) (by omega) (.slice Ak (M k).length ck) (M k) s [.slice As s.length cs] (Rk bm arr k) (Avoid bm arr) rfl rfl ?aP ?aK ?aF ?aO ?aB ?aS ?aL ?_
          case aP => exact FK_state (Kd.V_below HV.out HBW.out)
          case aK => exact HAV.out
          case aF => exact HFW.out
          case aO => exact Kd.N_below HNK.out HBW.out
          case aB => exact below_then HB.out HB.out.size HBW.out
          case aS => exact (below_then HB.out HB.out.size HBW.out).size
          case aL => omega
          intro v1 w1 ho hb hg hat
          obtain ⟨A1, d1, ev⟩ := Kd.N_slice ho
          subst ev
          rw [show (M k ++ [s]).length = (M k).length + 1 by simp] at ho hat
          rw [show (M k ++ [s]).length = (M k).length + 1 by simp]
          have HO1 := Aside0.mk ho
          have HB1 := Aside0.mk hb
          have HG1 := Aside0.mk hg
          have HA1 := Aside0.mk hat
          clear ho hb hg hat
          refine hK.out _ _ ⟨HG1.out.cell HHW.out.1 HNX.out, HG1.out.cell HHW.out.2 HNM.out⟩ (fun hHeld => ?_)
          clear hK K
          refine norm_ (a' := ?_) ?_ ?_
          rotate_left
          ·show Act.put _ (some 85) _ = _
           simp only [Act.put, List.setIfInBounds_toArray, List.set_cons_zero, List.set_cons_succ, i64_w, i32_w]
           rfl
          refine pure_ (i := 15) (N := some 86) (v := ?_) (a' := ?_) #[true, true, true, true, true, true, true, true, true, true, true, true, true, true, true, true, false] rfl rfl (by kernel_rfl) (fun _ _ _ h => h) (Or.inl ⟨by rfl, ?_⟩) ?_ ?_
          rotate_left
          ·intro w'
           go_simp
           with_reducible rfl
          rotate_left
          ·simp only [Act.put, List.setIfInBounds_toArray, List.set_cons_zero, List.set_cons_succ, i64_w, i32_w]
           rfl
          refine last_ (i := 16) (N := none) #[true, true, true, true, true, true, true, true, true, true, true, true, true, true, true, true, true] rfl rfl (by kernel_rfl) (by decide) (fun K hK => ?_)
          obtain ⟨h1, h2⟩ := hHeld
          have hfz : w1.frozen? ⟨bm, k, none⟩ = false := blk_frozen ((HG1.out.block bm (blk_lt (blk_below HM.out.blk HBW.out)) HNM.out).trans (blk_below HM.out.blk HBW.out)) k
          refine skip_ (w1 := ?_) (by rfl) rfl ?_ ?_
          rotate_left 1
          ·go_simp
           rfl
          refine hK.out _ _ ?_
          clear hK K
          refine done_ (by kernel_rfl) ?_
          -- END14
          have HPUT := MetAt.put HM.out hk HVK.out HBW.out HG1.out HA1.out HO1.out
          obtain ⟨arr1, ha1⟩ : ∃ a, a = arr.setIfInBounds k (.slice A1 ((M k).length + 1) d1) := ⟨_, rfl⟩
          rw [← ha1] at HPUT
          have HB9 : Below w0.heap.size w0 (w1.setCell ⟨bm, k, none⟩ (.slice A1 ((M k).length + 1) d1)) := HB1.out.setCell (p := ⟨bm, k, none⟩) HM.out.low _
          go_wp2
          generalize w1.setCell ⟨bm, k, none⟩ (.slice A1 ((M k).length + 1) d1) = wd at HPUT HB9 ⊢
          have HM1 := Aside0.mk HPUT.1
          have HO2 := Aside0.mk HPUT.2
          have HB2 := Aside0.mk HB9
          clear HPUT HB9 ha1 HO1 HB1 HG1 HA1 h1 h2 hfz HHW HFW HAV HNX HNM HBW HNK HVK cb c0 c1 c2 c3 hHeld
          go_loopg [11] (l.length + 1) (fun gk v11 wr => ∃ (i : Nat) (arr2 : Array Value) (M2 : Met) (cc : Nat), v11 = .int .i64 i ∧ i ≤ l.length ∧ l.length - i < gk ∧ Aside0 (MetAt wr w0.heap.size bm NN arr2 M2) ∧ Aside0 (Only bm arr arr2 w wr) ∧ Aside0 (Below w0.heap.size w0 wr) ∧ Aside0 (∀ k, (M2 k).length ≤ cc) ∧
            Aside0 (cc + 2 * ((miss l k).length - (missTo l k i).length) * tries m' ≤ cnt + tries (m' + 1)) ∧ Aside0 (GrM1 n l k s M M2) ∧ Aside0 (Vain n l k s i))
          case atStart =>
            refine ⟨0, arr1, M.add k s, cnt + 1, rfl, by omega, by omega, HM1, HO2, HB2, ⟨Met.add_len HCL.out k s⟩, ⟨?_⟩, ⟨GrM1.add _ _ _ _ _⟩, ⟨by intro j hj; omega⟩⟩
            simp only [missTo, List.length_nil, Nat.sub_zero, HML.out]; have := HTI.out; omega
          case round =>
            clear HM1 HO2 HB2
            obtain ⟨i, arr2, M2, cc, rfl, i1, hg, HM2, HO2, HB2, HL2, HT2, HGr, HVa⟩ := hrel
            have hkeep := HO2.out.keep bx (blk_lt HX.out) HAX.out
            have HXr : Aside0 (SX n start l A c bx bm NN wr) := ⟨hkeep.1.trans HX.out⟩
            clear hkeep
            have HVr := Aside0.mk (V_only HV.out HO2.out)
            obtain ⟨c0, c1, c2, c3⟩ := HXr.out.cells
            by_cases hlt : i < l.length
            · have hlt' : decide ((i : Int) < (l.length : Int)) = true := decide_eq_true (by omega)
              have hi1 : (i : Int) < (l.length : Int) := by omega
              have i12 : i ≤ 12 := by omega
              obtain ⟨my, hmy⟩ : ∃ my, my = mayB l k i := ⟨_, rfl⟩
              have HMY : Aside0 (∀ W, Below wr.heap.size wr W → Calls Tryd.prog 50 #[.pointer (some ⟨bx, 0, none⟩), .int .i64 k, .int .i64 i] W fun e w' => e = .returned (.bool my) ∧ Below W.heap.size W w') := ⟨fun W hW => by rw [hmy]; exact may_ref k i W (blk_below HXr.out hW) (Kd.C_below (Kd.C_below HL.out HB2.out) hW) hlen hk4 hlt⟩
              have HMB := Aside0.mk hmy
              clear hmy
              cases my with
              | false =>
                have HSK : Aside0 (k.testBit i = true ∨ ∃ y ∈ miss l k, aheadB y (rd_T33 l (i : Int)) = true) := ⟨by
                  refine Classical.byContradiction fun h => ?_
                  have h' := (mayB_iff l k i).2 ⟨by
                    cases hb : k.testBit i with
                    | true => exact absurd (.inl hb) h
                    | false => rfl, fun y hy => by
                    cases ha : aheadB y (rd_T33 l (i : Int)) with
                    | true => exact absurd (.inr ⟨y, hy, ha⟩) h
                    | false => rfl⟩
                  rw [← HMB.out] at h'; cases h'⟩
                go_wp2_with (go_at_call 50; (with_reducible refine (HMY.out _ (Below.refl _ _)).mono ?_); rintro e3 w3 ⟨rfl, hb3⟩; have HB3 := Aside0.mk hb3; clear hb3)
                go_roundg (gk - 1)
                case measure => omega
                case rel =>
                  refine ⟨i + 1, arr2, M2, cc, by go_num, by omega, by omega, ⟨HM2.out.below HB3.out⟩, ⟨HO2.out.trans (Only.of_below HB3.out)⟩, ⟨below_then HB2.out HB2.out.size HB3.out⟩, HL2, ⟨?_⟩, HGr, ⟨HVa.out.skip HSK.out⟩⟩
                  refine Nat.le_trans (Nat.add_le_add_left (Nat.mul_le_mul_right _ (Nat.mul_le_mul_left _ ?_)) _) HT2.out
                  have := missTo_le l k (show i ≤ i + 1 by omega)
                  omega
              | true =>
                have HBI := Aside0.mk ((mayB_iff l k i).1 HMB.out.symm)
                go_upto_region 20 with (go_at_call 50; (with_reducible refine (HMY.out _ (Below.refl _ _)).mono ?_); rintro e3 w3 ⟨rfl, hb3⟩; have HB3 := Aside0.mk hb3; have c0 := pw_cell_below HB3.out c0; have c1 := pw_cell_below HB3.out c1; have c2 := pw_cell_below HB3.out c2; clear hb3)
                obtain ⟨e, he⟩ : ∃ e, e = rd_T33 l (i : Int) := ⟨_, rfl⟩
                have HM3 := Aside0.mk (HM2.out.below HB3.out)
                have HO3 := Aside0.mk (HO2.out.trans (Only.of_below HB3.out))
                have HB3' : Aside0 (Below w0.heap.size w0 w3) := ⟨below_then HB2.out HB2.out.size HB3.out⟩
                have HX3 : Aside0 (SX n start l A c bx bm NN w3) := ⟨blk_below HXr.out HB3.out⟩
                have HV3 := Aside0.mk (Kd.V_below HVr.out HB3.out)
                obtain ⟨ad, ea, x0, x1, x2, x3, x4, x5, x6, x7⟩ := at_T33 (Kd.C_below HL.out HB3'.out) (i : Int) (by omega) (by omega)
                subst ea
                rw [Int.toNat_natCast] at x0 x1 x2 x3 x4 x5 x6 x7
                rw [← he] at x0 x1 x2 x3 x4 x5 x6 x7
                have HE := Aside0.mk he
                obtain ⟨ws, hws⟩ : ∃ ws, ws = waysOf n s e := ⟨_, rfl⟩
                have HWC : Aside0 (Calls Tryd.prog 20 #[.int .i64 n, .int .i64 start, .slice As s.length cs, .agg #[.int .i64 e.f0, .int .i64 e.f1, .int .i64 e.f2, .int .i64 e.f3, .int .i64 e.f4, .int .i64 e.f5, .int .i64 e.f6.f0, .int .i64 e.f6.f1]] w3.drew fun z w' => ∃ v, z = .returned v ∧ WaysAt w' (Avoid bm arr2) v ws ∧ Below w3.drew.heap.size w3.drew w') := ⟨by
                  refine (ways_ref n start (Avoid bm arr2) (m' + 1) As cs s e w3.drew (Kd.V_drew HV3.out) HS.out HF.out).mono ?_
                  rintro z w' ⟨v, h1, h2, h3⟩
                  refine ⟨v, h1, ?_, h3⟩
                  rw [hws]
                  exact WaysAt.mono (fun b hb => hb.elim id (fun hb => (HM3.out.below (below_drew1 (Below.refl _ _))).new hb)) h2⟩
                have HWS := Aside0.mk hws
                clear he hws HM2 HO2 HB2 HXr HVr HMY
                go_still_tail 16, (by kernel_rfl)
                change wpList _ _ _ _ _ w3.drew
                go_wp2_with fail
                refine HWC.out.mono ?_
                clear HWC
                rintro z w4 ⟨v4, rfl, hw4, hb4⟩
                have hb34 := below_then (below_drew1 (Below.refl w3.heap.size w3)) (Nat.le_refl _) hb4
                have HM4 := Aside0.mk (HM3.out.below hb34)
                have HO4 := Aside0.mk (HO3.out.trans (Only.of_below hb34))
                have HB4 : Aside0 (Below w0.heap.size w0 w4) := ⟨below_then HB3'.out HB3'.out.size hb34⟩
                obtain ⟨g4, A4, c4, ev, hws2, _, _⟩ := ways_at (show WaysAt w4 (Avoid bm arr2) v4 ws from hw4)
                subst ev
                have HW4 := Aside0.mk hw4
                clear hw4 hb4 hb34 HM3 HO3 HB3' HX3 HV3 HB3 c0 c1 c2 c3 x0 x1 x2 x3 x4 x5 x6 x7
                go_wp2
                obtain ⟨go, rfl⟩ : ∃ go : Nat, go = gk := ⟨_, rfl⟩
                go_loopg [14] (ws.length + 1) (fun gj v14 wr2 => ∃ (q : Nat) (arr3 : Array Value) (M3 : Met) (cd : Nat), v14 = .int .i64 q ∧ q ≤ ws.length ∧ ws.length - q < gj ∧ Aside0 (MetAt wr2 w0.heap.size bm NN arr3 M3) ∧ Aside0 (Only bm arr arr3 w wr2) ∧ Aside0 (Below w0.heap.size w0 wr2) ∧ Aside0 (∀ k, (M3 k).length ≤ cd) ∧
                  Aside0 (WaysAt wr2 (Avoid bm arr3) (.slice A4 ws.length c4) ws) ∧ Aside0 (cd + (2 * ((miss l k).length - (missTo l k (i + 1)).length) + (2 - q)) * tries m' ≤ cnt + tries (m' + 1)) ∧ Aside0 (GrM1 n l k s M M3) ∧ Aside0 (Vain1 n l k i (ws.take q)))
                case atStart =>
                  refine ⟨0, arr2, M2, cc, rfl, by omega, by omega, HM4, HO4, HB4, HL2, HW4, ⟨?_⟩, HGr, ⟨by intro x hx; simp at hx⟩⟩
                  refine Nat.le_trans (Nat.add_le_add_left (Nat.mul_le_mul_right _ ?_) _) HT2.out
                  have h1 : (missTo l k (i + 1)).length = (missTo l k i).length + 1 := by rw [missTo, if_neg (by rw [HBI.out.1]; decide)]; simp
                  have h2 := missTo_le l k (show i + 1 ≤ l.length by omega)
                  unfold miss at *
                  omega
                case round =>
                  clear HM4 HO4 HB4 HW4
                  obtain ⟨q, arr3, M3, cd, rfl, hq1, hq2, HM6, HO6, HB6, HL6, HW6, HC6, HGr6, HVa6⟩ := hrel
                  have hkeep := HO6.out.keep bx (blk_lt HX.out) HAX.out
                  have HX6 : Aside0 (SX n start l (some ad) c bx bm NN wr) := ⟨hkeep.1.trans HX.out⟩
                  have HAX6 := Aside0.mk hkeep.2
                  clear hkeep
                  obtain ⟨c0, c1, c2, c3⟩ := HX6.out.cells
                  by_cases hqt : q < ws.length
                  · have hqt' : decide ((q : Int) < (ws.length : Int)) = true := decide_eq_true (by omega)
                    have hqi : (q : Int) < (ws.length : Int) := by omega
                    have hq0 : (0 : Int) ≤ (q : Int) := Int.natCast_nonneg _
                    obtain ⟨g, Ag, cg, ev, _, hAg, hcs⟩ := ways_at HW6.out
                    injection ev with ev1 _ ev3
                    subst ev3
                    subst ev1
                    obtain ⟨eA, hglt⟩ := hAg (by intro h; rw [h] at hqt; simp at hqt)
                    subst eA
                    obtain ⟨B, d, y0, y1, y2, hVx⟩ := hcs q hqt
                    have hmem : ws[q] ∈ ws := List.getElem_mem hqt
                    have htk : ws.take (q + 1) = ws.take q ++ [ws[q]] := List.take_succ_eq_append_getElem hqt
                    obtain ⟨x, hx⟩ : ∃ x, x = ws[q] := ⟨_, rfl⟩
                    rw [← hx] at y0 y1 y2 hVx hmem htk
                    have HTK := Aside0.mk htk
                    have HME : Aside0 (x ∈ waysOf n s e) := ⟨by rw [← HWS.out]; exact hmem⟩
                    have HVx := Aside0.mk hVx
                    clear hx hmem htk hcs hAg hVx
                    have hq2' : q < 2 := by omega
                    obtain ⟨ad', ea, x0, x1, x2, x3, x4, x5, x6, x7⟩ := at_T33 (Kd.C_below HL.out HB6.out) (i : Int) (by omega) (by omega)
                    obtain rfl : ad = ad' := by injection ea
                    clear ea
                    rw [Int.toNat_natCast] at x0 x1 x2 x3 x4 x5 x6 x7
                    rw [← HE.out] at x0 x1 x2 x3 x4 x5 x6 x7
                    have hWI := HNU.out _ (rd33_at l hlt)
                    rw [← HE.out] at hWI
                    have HLS := Aside0.mk (miss_less HBI.out.1 hlt)
                    have HCALL : Aside0 (∀ nq, Calls Tryd.prog 33 #[.pointer (some ⟨bx, 0, none⟩), .int .i64 (bits .or .i64 (k : Int) (wrap64 (2 ^ i))), .slice B x.f1.length d] ((wr.drewN nq).drew) (RPost n l w0 bm NN (k ||| 1 <<< i) x.f1 arr3 M3 cd ((wr.drewN nq).drew))) := ⟨fun nq => by
                      have hbd : Below wr.heap.size wr ((wr.drewN nq).drew) := below_drew1 (pw_below_drewN (Below.refl _ _) nq)
                      rw [or_put' hk4 (by omega)]
                      have hNN := HNN.out
                      subst hNN
                      exact IH.out m' (by omega) (k ||| 1 <<< i) x.f1 B d arr3 M3 cd _ (by have := HML.out; have := HLS.out; omega) (put_lt hk hlt) (HS.out.next hWI.1 hWI.2 HME.out) (flags_next HF.out HS.out HME.out) (Kd.V_below HVx.out hbd) (blk_below HX6.out hbd) HAX6.out (HM6.out.below hbd) (below_then HB6.out HB6.out.size hbd) HL6.out (Nat.le_trans (cost_call hq2' HC6.out) HCN.out) (HGr6.out.kept HK.out HML.out)⟩
                    have HTRUE : Aside0 (∀ nq arr9 M9 c9 w9, ((rd_T33 l (i : Int)).f5 = -1 ∨ x.f0 = (rd_T33 l (i : Int)).f6) → MetAt w9 w0.heap.size bm NN arr9 M9 → Only bm arr3 arr9 ((wr.drewN nq).drew) w9 → Below w0.heap.size w0 w9 → (∀ k, (M9 k).length ≤ c9) → c9 ≤ cd + tries (miss l (k ||| 1 <<< i)).length → Gs n l (k ||| 1 <<< i) x.f1 → RPost n l w0 bm NN k s arr M cnt w (.returned (.bool true)) w9) := ⟨by
                      intro nq arr9 M9 c9 w9 hcond h1 h2 h3 h4 h5 h6
                      have hbd : Below wr.heap.size wr ((wr.drewN nq).drew) := below_drew1 (pw_below_drewN (Below.refl _ _) nq)
                      have ht := cost_call hq2' HC6.out
                      have e9 : (miss l (k ||| 1 <<< i)).length = m' := by have := HML.out; have := HLS.out; omega
                      rw [e9] at h5
                      refine ⟨true, arr9, M9, c9, rfl, h1, (HO6.out.trans (Only.of_below hbd)).trans h2, h3, h4, by rw [HML.out]; omega, fun _ => .step i x hlt HBI.out.1 HBI.out.2 (by rw [← HE.out]; exact HME.out) hcond h6, fun h => by cases h⟩⟩
                    have HFALSE : Aside0 (∀ nq arr9 M9 c9 w9, MetAt w9 w0.heap.size bm NN arr9 M9 → Only bm arr3 arr9 ((wr.drewN nq).drew) w9 → c9 ≤ cd + tries (miss l (k ||| 1 <<< i)).length → ¬ Gs n l (k ||| 1 <<< i) x.f1 → GrM n l M3 M9 →
                        Aside0 (Only bm arr arr9 w w9) ∧ Aside0 (WaysAt w9 (Avoid bm arr9) (.slice (some ⟨g, 0, none⟩) ws.length c4) ws) ∧ Aside0 (c9 + (2 * ((miss l k).length - (missTo l k (i + 1)).length) + (2 - (q + 1))) * tries m' ≤ cnt + tries (m' + 1)) ∧ Aside0 (GrM1 n l k s M M9) ∧ Aside0 (Vain1 n l k i (ws.take (q + 1)))) := ⟨by
                      intro nq arr9 M9 c9 w9 h1 h2 h3 h4 h5
                      have hbd : Below wr.heap.size wr ((wr.drewN nq).drew) := below_drew1 (pw_below_drewN (Below.refl _ _) nq)
                      have e9 : (miss l (k ||| 1 <<< i)).length = m' := by have := HML.out; have := HLS.out; omega
                      rw [e9] at h3
                      have ho := (Only.of_below (bm := bm) (a := arr3) hbd).trans h2
                      refine ⟨⟨HO6.out.trans ho⟩, ⟨HW6.out.only ho⟩, ⟨cost_step hq2' h3 HC6.out⟩, ⟨HGr6.out.then h5⟩, ⟨?_⟩⟩
                      rw [HTK.out]
                      exact HVa6.out.snoc (fun _ => h4)⟩
                    by_cases hA : e.f5 = -1
                    · have hA' : (e.f5 != -1) = false := bne_eq_false_iff_eq.mpr hA
                      have HA := Aside0.mk hA
                      clear hA
                      go_upto_region 24 with (fail)
                      go_quiet (fail)
                      have y2z := pw_cell_below (pw_below_drewN (Below.refl wr.heap.size wr) nq) y2
                      have HCq := Aside0.mk (HCALL.out nq)
                      have HTq := Aside0.mk (HTRUE.out nq)
                      have HFq := Aside0.mk (HFALSE.out nq)
                      clear HCALL HTRUE HFALSE y2
                      generalize wr.drewN nq = wz at y2z HCq HTq HFq ⊢
                      go_upto_region 25 with (fail)
                      go_still_tail 10, (by kernel_rfl)
                      change wpList _ _ _ _ _ wz.drew
                      go_wp2_with fail
                      refine HCq.out.mono ?_
                      clear HCq
                      rintro z w9 ⟨⟨r, arr9, M9, c9, rfl, h1, h2, h3, h4, h5, h6, h7⟩⟩
                      cases r with
                      | true =>
                        have HP := Aside0.mk (HTq.out arr9 M9 c9 w9 (.inl (by rw [← HE.out]; exact HA.out)) h1 h2 h3 h4 h5 (h6 rfl))
                        clear h1 h2 h3 h4 h5 h6 h7 HTq HFq
                        go_wp2
                        go_ret
                        exact HP.out
                      | false =>
                        obtain ⟨a1, a2, a3, a4, a5⟩ := HFq.out arr9 M9 c9 w9 h1 h2 h5 (h7 rfl).1 (h7 rfl).2
                        have a0 := Aside0.mk h1
                        have a6 := Aside0.mk h3
                        have a7 := Aside0.mk h4
                        clear h1 h2 h3 h4 h5 h6 h7 HTq HFq
                        go_wp2
                        go_roundg (gk - 1)
                        case measure => omega
                        case rel => exact ⟨q + 1, arr9, M9, c9, by go_num, by omega, by omega, a0, a1, a6, a7, a2, a3, a4, a5⟩
                    · have hA' : (e.f5 != -1) = true := bne_iff_ne.mpr hA
                      cases hB : (x.f0.f0 == e.f6.f0 && x.f0.f1 == e.f6.f1) with
                      | true =>
                        have hx6 : x.f0 = e.f6 := by
                          simp only [Bool.and_eq_true, beq_iff_eq] at hB
                          exact s31_ext hB.1 hB.2
                        have HX6' := Aside0.mk hx6
                        have heq : ∀ (d : Nat) (w : World), (Op.equalIn (d + 2) 31 (.agg #[.int .i64 x.f0.f0, .int .i64 x.f0.f1]) (.agg #[.int .i64 e.f6.f0, .int .i64 e.f6.f1])).run Tryd.prog w = .ok true w := fun d w => by rw [eqA31, hB]
                        clear hx6 hB
                        go_upto_region 24 with (fail)
                        go_quiet (fail)
                        have y2z := pw_cell_below (pw_below_drewN (Below.refl wr.heap.size wr) nq) y2
                        have HCq := Aside0.mk (HCALL.out nq)
                        have HTq := Aside0.mk (HTRUE.out nq)
                        have HFq := Aside0.mk (HFALSE.out nq)
                        clear HCALL HTRUE HFALSE y2
                        generalize wr.drewN nq = wz at y2z HCq HTq HFq ⊢
                        go_upto_region 25 with (fail)
                        go_still_tail 10, (by kernel_rfl)
                        change wpList _ _ _ _ _ wz.drew
                        go_wp2_with fail
                        refine HCq.out.mono ?_
                        clear HCq
                        rintro z w9 ⟨⟨r, arr9, M9, c9, rfl, h1, h2, h3, h4, h5, h6, h7⟩⟩
                        cases r with
                        | true =>
                          have HP := Aside0.mk (HTq.out arr9 M9 c9 w9 (.inr (by rw [← HE.out]; exact HX6'.out)) h1 h2 h3 h4 h5 (h6 rfl))
                          clear h1 h2 h3 h4 h5 h6 h7 HTq HFq
                          go_wp2
                          go_ret
                          exact HP.out
                        | false =>
                          obtain ⟨a1, a2, a3, a4, a5⟩ := HFq.out arr9 M9 c9 w9 h1 h2 h5 (h7 rfl).1 (h7 rfl).2
                          have a0 := Aside0.mk h1
                          have a6 := Aside0.mk h3
                          have a7 := Aside0.mk h4
                          clear h1 h2 h3 h4 h5 h6 h7 HTq HFq
                          go_wp2
                          go_roundg (gk - 1)
                          case measure => omega
                          case rel => exact ⟨q + 1, arr9, M9, c9, by go_num, by omega, by omega, a0, a1, a6, a7, a2, a3, a4, a5⟩
                      | false =>
                        have HNO : Aside0 (¬ ((rd_T33 l (i : Int)).f5 = -1 ∨ x.f0 = (rd_T33 l (i : Int)).f6)) := ⟨by
                          rw [← HE.out]
                          rintro (h | h)
                          · exact hA h
                          · rw [h] at hB; simp at hB⟩
                        have heq : ∀ (d : Nat) (w : World), (Op.equalIn (d + 2) 31 (.agg #[.int .i64 x.f0.f0, .int .i64 x.f0.f1]) (.agg #[.int .i64 e.f6.f0, .int .i64 e.f6.f1])).run Tryd.prog w = .ok false w := fun d w => by rw [eqA31, hB]
                        clear HCALL HTRUE HFALSE hB
                        go_upto_region 24 with (fail)
                        go_quiet (fail)
                        have hdN := pw_below_drewN (Below.refl wr.heap.size wr) nq
                        have b0 := Aside0.mk (HM6.out.below hdN)
                        have b1 := Aside0.mk (HO6.out.trans (Only.of_below hdN))
                        have b2 : Aside0 (Below w0.heap.size w0 (wr.drewN nq)) := ⟨below_then HB6.out HB6.out.size hdN⟩
                        have b3 := Aside0.mk (HW6.out.only (Only.of_below (bm := bm) (a := arr3) hdN))
                        have b4 : Aside0 (cd + (2 * ((miss l k).length - (missTo l k (i + 1)).length) + (2 - (q + 1))) * tries m' ≤ cnt + tries (m' + 1)) := ⟨cost_step hq2' (by omega) HC6.out⟩
                        have b5 : Aside0 (Vain1 n l k i (ws.take (q + 1))) := ⟨by rw [HTK.out]; exact HVa6.out.snoc (fun h => absurd h HNO.out)⟩
                        clear hdN
                        go_wp2
                        go_roundg (gk - 1)
                        case measure => omega
                        case rel => exact ⟨q + 1, arr3, M3, cd, by go_num, by omega, by omega, b0, b1, b2, HL6, b3, b4, HGr6, b5⟩
                  · have hqt' : decide ((q : Int) < (ws.length : Int)) = false := decide_eq_false (by omega)
                    obtain rfl : q = ws.length := by omega
                    go_wp2
                    go_roundg (go - 1)
                    case measure => omega
                    case rel =>
                      refine ⟨i + 1, arr3, M3, cd, by go_num, by omega, by omega, HM6, HO6, HB6, HL6, ⟨?_⟩, HGr6, ⟨HVa.out.more ?_⟩⟩
                      · exact Nat.le_trans (Nat.add_le_add_left (Nat.mul_le_mul_right _ (Nat.le_add_right _ _)) _) HC6.out
                      · have := HVa6.out
                        rw [List.take_length] at this
                        rw [← HE.out, ← HWS.out]; exact this
            · have hlt' : decide ((i : Int) < (l.length : Int)) = false := decide_eq_false (by omega)
              obtain rfl : i = l.length := by omega
              have hno := Aside0.mk (HVa.out.all HD.out)
              go_wp2
              go_ret
              exact ⟨false, arr2, M2, cc, rfl, HM2.out, HO2.out, HB2.out, HL2.out, by rw [HML.out]; have := HT2.out; omega, (fun h => by cases h), fun _ => ⟨hno.out, HGr.out.end_ hno.out⟩⟩
end Go.Proofs.YtakhipedjccpkaaDoor.PH
