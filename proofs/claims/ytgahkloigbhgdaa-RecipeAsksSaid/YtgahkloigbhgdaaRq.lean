/- recipe.Order: what it answers. Conditions: none. -/
import Derived.Test.YtgahkloigbhgdaaRp
import Derived.Test.YtgahkloigbhgdaaRr
namespace Go.Proofs.Ytgahkloigbhgdaa.PR
open Go.RowKit Go.Proofs.YtgahkloigbhgdaaW.PrintWords Go.Proofs.YtgahkloigbhgdaaW.PrintLast Go.Proofs.YtgahkloigbhgdaaW.PrintMore
set_option linter.unusedVariables false
set_option linter.unusedSimpArgs false

/-- Keys are asked for, one behind the other. -/
noncomputable def askAll (l : List S43) (ks : List Int) : St := ks.foldl (fun s k => if 0 ≤ k ∧ k < (l.length : Int) then askF l (cn l) (l.length + 1) k s else s) (List.replicate l.length false, [])
noncomputable def orderOf (l : List S43) (ks : List Int) : List Int := if rightN l = 0 then (askAll l ks).2 else []
noncomputable def recipe_Order.f (l0 : List (S43)) (l1 : List Int) : Option (List Int) := some (orderOf l0 l1)

theorem askAll_snoc (l : List S43) (ks : List Int) (k : Int) : askAll l (ks ++ [k]) = if 0 ≤ k ∧ k < (l.length : Int) then askF l (cn l) (l.length + 1) k (askAll l ks) else askAll l ks := by
  simp [askAll, List.foldl_append]
theorem ai_start (n : Nat) : AI n 0 (List.replicate n false, []) := ⟨by simp, by have := unm_le (List.replicate n false); simpa using this⟩
theorem askAll_keeps {l : List S43} (hv : Vld l) (ks : List Int) : AI l.length 0 (askAll l ks) ∧ unm (askAll l ks).1 ≤ l.length := by
  have gen : ∀ (ks : List Int) (s : St), AI l.length 0 s → unm s.1 ≤ l.length → AI l.length 0 (ks.foldl (fun s k => if 0 ≤ k ∧ k < (l.length : Int) then askF l (cn l) (l.length + 1) k s else s) s) ∧ unm (ks.foldl (fun s k => if 0 ≤ k ∧ k < (l.length : Int) then askF l (cn l) (l.length + 1) k s else s) s).1 ≤ l.length := by
    intro ks
    induction ks with
    | nil => intro s a b; exact ⟨a, b⟩
    | cons k ks ih =>
      intro s a b
      simp only [List.foldl_cons]
      split
      · rename_i h
        obtain ⟨a', b'⟩ := askF_keeps (c := cn l) hv (l.length + 1) k _ 0 h.1 h.2 a
        exact ih _ a' (by omega)
      · exact ih _ a b
  exact gen ks _ (ai_start _) (by have := unm_le (List.replicate l.length false); simpa using this)
theorem fates_some {l : List S43} (h : rightN l = 0) : recipe_fates.f l = some (fatesOf l) := by unfold recipe_fates.f; rw [if_pos (rgt_of h)]

set_option maxHeartbeats 8000000 in
set_option maxRecDepth 100000 in
theorem recipe_Order.calls (A0 : Option Addr) (c0 : Nat) (l0 : List (S43)) (A1 : Option Addr) (c1 : Nat) (l1 : List Int) (r : List Int) (w : World) (hr0 : Kd.C k43 w A0 l0.length l0) (hc0 : l0.length ≤ c0) (hr1 : Kd.C (Kd.int .i64) w A1 l1.length l1) (hc1 : l1.length ≤ c1) (h : recipe_Order.f l0 l1 = some r) :
    Calls Try.prog 14 #[.slice A0 l0.length c0, .slice A1 l1.length c1] w fun e w' => ∃ v0_ : Value, e = .returned (v0_) ∧ Kd.R (Kd.int .i64) 3 w' w.heap.size (fun _ => True) v0_ r ∧ Below w.heap.size w w' := by
  have Hr := Aside0.mk (Option.some.inj h)
  clear h
  have HR0 := Aside0.mk hr0
  have HC0 := Aside0.mk hc0
  have HR1 := Aside0.mk hr1
  have HC1 := Aside0.mk hc1
  have hml := Kd.C_max hr1
  clear hr0 hc0 hr1 hc1
  obtain ⟨K, hK⟩ := Right_tells l0
  have HK := Aside0.mk hK
  clear hK
  have HBX := Aside0.mk (blk_new w (.cells #[.slice A0 l0.length c0] 25))
  obtain ⟨x1, x1'⟩ := cell_of HBX.out
  have HRX := Aside0.mk (Kd.C_alloc HR0.out (.cells #[.slice A0 l0.length c0] 25))
  obtain ⟨rn, hrn⟩ : ∃ rn, rn = rightN l0 := ⟨_, rfl⟩
  have HRN := Aside0.mk hrn
  rw [hrn] at *
  clear hrn
  by_cases hz : rightN l0 = 0
  · have hz' : (rightN l0 == 0) = true := by simpa using hz
    have hzz : ((rightN l0) != 0) = false := by simpa using hz
    have HE : Aside0 (r = (askAll l0 l1).2) := ⟨by rw [← Hr.out, orderOf, if_pos hz]⟩
    have HF := Aside0.mk (fates_some hz)
    obtain ⟨hrg, hl0⟩ := rgt_of hz
    have HRG := Aside0.mk hrg
    have hlen : l0.length ≤ 100 := hrg.vld.few
    clear hz hrg
    have hmf : ∀ (fn : Fn) (first cap : Array Value) (w : World), (Instr.makeFunc fn first cap).run Try.prog w = .ok (.func fn first cap) w := fun _ _ _ _ => rfl
    have hsf := fun (a : Addr) (c : Array Value) (w : World) => run_store Try.prog w a (.func (.func 29) #[] c) .plain rfl
    go_enter Try.func14, Try.ntmps14
    go_wp2_with (first
      | (go_at_call 11; (with_reducible refine (recipe_Right.calls K _ _ l0 (rightN l0) _ HRX.out HC0.out HK.out).mono ?_); rintro e w2 ⟨rfl, hb⟩; have HB2 : Aside0 (Below w.heap.size w w2) := ⟨below_then (below_alloc (Below.refl _ _) _) (by simp) hb⟩; have HBX2 := Aside0.mk (blk_below HBX.out hb); have HRX2 := Aside0.mk (Kd.C_below HRX.out hb); obtain ⟨y1, y1'⟩ := cell_of HBX2.out; have y0 := blk_lt HBX2.out; clear hb)
      | (go_at_call 28; (with_reducible refine (recipe_fates.calls _ _ l0 (fatesOf l0) _ HRX2.out HC0.out HF.out).mono ?_); rintro e w3 ⟨v0, rfl, hv0, hb⟩; have hs3 := hb.size; have HB3 : Aside0 (Below w.heap.size w w3) := ⟨below_then HB2.out HB2.out.size hb⟩; have HBX3 := Aside0.mk (blk_below HBX2.out hb); have HV0 := Aside0.mk hv0; obtain ⟨z1, z1'⟩ := cell_of HBX3.out; have z0 := blk_lt HBX3.out; obtain ⟨gf, capf, ev0, _⟩ := Kd.R_form hv0 (by simpa [fatesOf] using hl0); rw [show (fatesOf l0).length = l0.length by simp [fatesOf]] at ev0; subst ev0; clear hb hv0)
      | ((with_reducible refine gate_dst (N := 18) rfl ?_); refine Kd.R_make Kd.bool _ 4 rfl (N := 18) rfl 41 _ _ rfl (l0.length : Int) rfl rfl Try.underlying41 (.bool false) 1 info4 rfl (by decide) (by omega) false (ok := fun _ => True) (okp := fun _ => True) rfl (fun _ hk => hk) trivial (by omega) (by omega) (Below.refl _ _) (Nat.le_refl _) ?_; intro v111 w8 ho8 hb hg_ hnew_; clear hg_ hnew_; obtain ⟨gd, capd, ev, hgd, ho9⟩ := made_row rfl ho8 hl0; subst ev; have HD := Aside0.mk ho9; have HB4 := Aside0.mk hb; have hs4 := hb.size; have HBX4 := Aside0.mk (blk_below ((Below.heap_alloc _ _ _ z0).trans HBX3.out) hb); have HBF4 := Aside0.mk (blk_below (blk_new w3 (.cells #[.slice (some ⟨gf, 0, none⟩) l0.length capf] 52)) hb); obtain ⟨cm1, cm1'⟩ := cell_of HBX4.out; have cm0 := blk_lt HBX4.out; obtain ⟨cn1, cn1'⟩ := cell_of HBF4.out; have cn0 := blk_lt HBF4.out; clear ho8 ho9 hb))
    clear hmf hsf x1 x1' y1 y1' z1 z1' cm1 cm1' cn1 cn1' hz' hzz
    obtain ⟨w9, hw9⟩ : ∃ w9, w9 = ((w8.alloc (.cells #[.slice (some ⟨gd, 0, none⟩) l0.length capd] 41)).alloc (.cells #[.slice none 0 0] 26)).alloc (.cells #[.func (.func 29) #[] #[ptr w8.heap.size, ptr w.heap.size, ptr (w8.heap.size + 1 + 1), ptr w3.heap.size, ptr (w8.heap.size + 1)]] 54) := ⟨_, rfl⟩
    have q1 : Below w8.heap.size w8 w9 := hw9 ▸ below_then (below_then (below_alloc (Below.refl _ _) _) (by simp) (below_alloc (Below.refl _ _) _)) (by simp; omega) (below_alloc (Below.refl _ _) _)
    have b1 : w9.heap[w8.heap.size]? = some (.cells #[.slice (some ⟨gd, 0, none⟩) l0.length capd] 41 (0, 0)) := hw9 ▸ (Below.heap_alloc _ _ _ (by simp; omega)).trans ((Below.heap_alloc _ _ _ (by simp)).trans (blk_new w8 _))
    have b2 : w9.heap[w8.heap.size + 1]? = some (.cells #[.slice none 0 0] 26 (0, 0)) := by
      rw [hw9]
      have := blk_new (w8.alloc (.cells #[.slice (some ⟨gd, 0, none⟩) l0.length capd] 41)) (.cells #[.slice none 0 0] 26)
      rw [World.size_alloc] at this
      exact (Below.heap_alloc _ _ _ (by simp)).trans this
    have b3 : w9.heap[w8.heap.size + 1 + 1]? = some (.cells #[.func (.func 29) #[] #[ptr w8.heap.size, ptr w.heap.size, ptr (w8.heap.size + 1 + 1), ptr w3.heap.size, ptr (w8.heap.size + 1)]] 54 (0, 0)) := by
      rw [hw9]
      have := blk_new ((w8.alloc (.cells #[.slice (some ⟨gd, 0, none⟩) l0.length capd] 41)).alloc (.cells #[.slice none 0 0] 26)) (.cells #[.func (.func 29) #[] #[ptr w8.heap.size, ptr w.heap.size, ptr (w8.heap.size + 1 + 1), ptr w3.heap.size, ptr (w8.heap.size + 1)]] 54)
      rw [World.size_alloc, World.size_alloc] at this
      exact this
    have hs0 := HB3.out.size
    have B8 : Below w3.heap.size w3 w8 := below_then (below_alloc (Below.refl _ _) _) (by simp) HB4.out
    have B9 : Below w.heap.size w w9 := below_then (below_then HB3.out hs0 B8) (by have := HB4.out.size; simp at this; omega) q1
    have hsz8 : w.heap.size ≤ w8.heap.size := by have := HB4.out.size; simp at this; omega
    have HW9 : Aside0 (OW l0 w A0 c0 w8.heap.size w.heap.size (w8.heap.size + 1 + 1) w3.heap.size (w8.heap.size + 1) gd gf capd capf w9 (List.replicate l0.length false, []) (.slice none 0 0)) :=
      ⟨⟨b1, blk_below HBX4.out q1, b3, blk_below HBF4.out q1, b2, Kd.R_below (Kd.R_mono (Kd.R_lower HD.out (by simp; omega)) (fun _ _ => trivial)) q1, Kd.R_nil _ _ _ _ _,
        Kd.R_below (Kd.R_below (Kd.R_lower HV0.out (by have := HB2.out.size; omega)) B8) q1, HR0.out, B9, by omega⟩⟩
    rw [← hw9]
    clear hw9 q1 b1 b2 b3 B8 B9
    go_loopg [22] (l1.length + 1) (fun gk v22 wr => ∃ (i : Int) (v1 : Value), v22 = .int .i64 i ∧ 0 ≤ i ∧ i ≤ (l1.length : Int) ∧ Aside0 (l1.length - i.toNat < gk) ∧ Aside0 (OW l0 w A0 c0 w8.heap.size w.heap.size (w8.heap.size + 1 + 1) w3.heap.size (w8.heap.size + 1) gd gf capd capf wr (askAll l0 (l1.take i.toNat)) v1))
    case atStart => exact ⟨0, _, rfl, by omega, by omega, ⟨by omega⟩, ⟨by simpa [askAll] using HW9.out⟩⟩
    case round =>
      clear HW9
      obtain ⟨i, v1, rfl, i0, i1, HG, HW⟩ := hrel
      obtain ⟨hk1, hk2⟩ := askAll_keeps HRG.out.vld (l1.take i.toNat)
      have HI := Aside0.mk hk1
      have HU := Aside0.mk hk2
      clear hk1 hk2
      by_cases hlt : i < (l1.length : Int)
      · obtain ⟨ad1, e1, g1⟩ := Kd.at_int (Kd.C_below HR1.out HW.out.low) i i0 hlt
        subst e1
        obtain ⟨k, hk⟩ : ∃ k, k = rd l1 i := ⟨_, rfl⟩
        rw [← hk] at g1
        have HSN : Aside0 (l1.take (i + 1).toNat = l1.take i.toNat ++ [k]) := ⟨by rw [hk]; exact take_rd i0 hlt⟩
        clear hk
        obtain ⟨z1, z1'⟩ := cell_of HW.out.ha
        obtain ⟨z2, z2'⟩ := cell_of HW.out.hl
        have hlt' : decide (i < (l1.length : Int)) = true := decide_eq_true hlt
        by_cases hk0 : 0 ≤ k
        · by_cases hk1 : k < (l0.length : Int)
          · have hk0' : decide (0 ≤ k) = true := decide_eq_true hk0
            have hk1' : decide (k < (l0.length : Int)) = true := decide_eq_true hk1
            go_wp2_with fail
            refine (ask_calls HRG.out HC0.out (l0.length + 1) k (askAll l0 (l1.take i.toNat)) v1 0 wr (by have := HU.out; omega) hk0 hk1 HI.out HW.out).mono ?_
            rintro e w2 ⟨⟨v2, rfl, hW3⟩⟩
            have HW3 : Aside0 (OW l0 w A0 c0 w8.heap.size w.heap.size (w8.heap.size + 1 + 1) w3.heap.size (w8.heap.size + 1) gd gf capd capf w2 (askAll l0 (l1.take (i + 1).toNat)) v2) := ⟨by rw [HSN.out, askAll_snoc, if_pos ⟨hk0, hk1⟩]; exact hW3⟩
            clear hW3
            go_wp2
            go_roundg (gk - 1)
            case measure => have := HG.out; omega
            case rel => exact ⟨i + 1, v2, by go_num, by omega, by omega, ⟨by have := HG.out; omega⟩, HW3⟩
          · have hk0' : decide (0 ≤ k) = true := decide_eq_true hk0
            have hk1' : decide (k < (l0.length : Int)) = false := decide_eq_false hk1
            have HW3 : Aside0 (OW l0 w A0 c0 w8.heap.size w.heap.size (w8.heap.size + 1 + 1) w3.heap.size (w8.heap.size + 1) gd gf capd capf wr (askAll l0 (l1.take (i + 1).toNat)) v1) := ⟨by rw [HSN.out, askAll_snoc, if_neg (fun h => hk1 h.2)]; exact HW.out⟩
            go_wp2
            go_roundg (gk - 1)
            case measure => have := HG.out; omega
            case rel => exact ⟨i + 1, v1, by go_num, by omega, by omega, ⟨by have := HG.out; omega⟩, HW3⟩
        · have hk0' : decide (0 ≤ k) = false := decide_eq_false hk0
          have HW3 : Aside0 (OW l0 w A0 c0 w8.heap.size w.heap.size (w8.heap.size + 1 + 1) w3.heap.size (w8.heap.size + 1) gd gf capd capf wr (askAll l0 (l1.take (i + 1).toNat)) v1) := ⟨by rw [HSN.out, askAll_snoc, if_neg (fun h => hk0 h.1)]; exact HW.out⟩
          go_wp2
          go_roundg (gk - 1)
          case measure => have := HG.out; omega
          case rel => exact ⟨i + 1, v1, by go_num, by omega, by omega, ⟨by have := HG.out; omega⟩, HW3⟩
      · have hlt' : decide (i < (l1.length : Int)) = false := decide_eq_false hlt
        obtain ⟨z1, z1'⟩ := cell_of HW.out.hv
        obtain ⟨A9, c9, e9⟩ := Kd.R_slice HW.out.rO
        subst e9
        have HE2 : Aside0 ((askAll l0 (l1.take i.toNat)).2 = r) := ⟨by rw [List.take_of_length_le (by omega)]; exact HE.out.symm⟩
        go_wp2
        go_ret
        exact ⟨_, rfl, by rw [← HE2.out]; exact HW.out.rO, HW.out.low⟩
  · have hz' : (rightN l0 == 0) = false := by simpa using hz
    have hzz : ((rightN l0) != 0) = true := by simpa using hz
    have HE : Aside0 (r = []) := ⟨by rw [← Hr.out, orderOf, if_neg hz]⟩
    clear hz
    go_enter Try.func14, Try.ntmps14
    go_wp2_with (first | (go_at_call 11; (with_reducible refine (recipe_Right.calls K _ _ l0 (rightN l0) _ HRX.out HC0.out HK.out).mono ?_); rintro e w2 ⟨rfl, hb⟩; have HB2 := Aside0.mk hb; clear hb))
    go_ret
    exact ⟨_, rfl, by rw [HE.out]; exact Kd.R_nil _ _ _ _ _, below_then (below_alloc (Below.refl _ _) _) (by simp) HB2.out⟩
end Go.Proofs.Ytgahkloigbhgdaa.PR
