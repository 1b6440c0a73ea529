/- recipe.fates: what it answers. Conditions: the recipes are right, and there is one. -/
import Derived.Test.YtgahkloigbhgdaaRb
namespace Go.Proofs.Ytgahkloigbhgdaa.PR
open Go.RowKit Go.Proofs.YtgahkloigbhgdaaW.PrintWords Go.Proofs.YtgahkloigbhgdaaW.PrintLast Go.Proofs.YtgahkloigbhgdaaW.PrintMore
set_option linter.unusedVariables false
set_option linter.unusedSimpArgs false

noncomputable def fatesOf (l : List S43) : List S51 := (List.range l.length).map fun (i : Nat) => fateOf l (i : Int)
open Classical in
noncomputable def recipe_fates.f (l0 : List (S43)) : Option ((List (S51))) := if Rgt l0 ∧ 0 < l0.length then some (fatesOf l0) else none

theorem made_row {α : Type} {d : Kd α} {e : Nat} {w : World} {B : Nat} {v : Value} {n : Nat} {z : α} (hE : d.E = []) (h : d.R e w B (fun _ => True) v (List.replicate ((n : Int)).toNat z)) (hn : 0 < n) :
    ∃ g cap, v = .slice (some ⟨g, 0, none⟩) n cap ∧ B ≤ g ∧ d.R e w B (fun k => k = g) (.slice (some ⟨g, 0, none⟩) n cap) (List.replicate n z) := by
  simp only [Int.toNat_natCast] at h
  obtain ⟨g, cap, e, hg, _⟩ := Kd.R_form h (by simpa using hn)
  simp only [List.length_replicate] at e
  subst e
  exact ⟨g, cap, rfl, hg, Kd.R_mono (Kd.R_tight hE h) (fun k hk => by simpa [Value.ownBlock] using hk)⟩

theorem fates_list {l : List S43} {D : List Bool} {F : List S51} (h : FI l (fun _ => False) D F) (hd : ∀ j : Int, 0 ≤ j → j < (l.length : Int) → rdOf false D j = true) : F = fatesOf l := by
  apply List.ext_getElem
  · simp [fatesOf, h.lenF]
  · intro i h1 h2
    have hi : (i : Int) < (l.length : Int) := by have := h.lenF; omega
    have := h.done i (by omega) hi (hd i (by omega) hi) id
    simp only [rd_T51, Int.toNat_natCast, List.getD_eq_getElem?_getD, List.getElem?_eq_getElem h1, Option.getD_some] at this
    simp [fatesOf, this]

set_option maxHeartbeats 8000000 in
set_option maxRecDepth 100000 in
theorem recipe_fates.calls (A0 : Option Addr) (c0 : Nat) (l0 : List (S43)) (r : List (S51)) (w : World) (hr0 : Kd.C k43 w A0 l0.length l0) (hc0 : l0.length ≤ c0) (h : recipe_fates.f l0 = some r) :
    Calls Try.prog 28 #[.slice A0 l0.length c0] w fun e w' => ∃ v0_ : Value, e = .returned (v0_) ∧ Kd.R k51 51 w' w.heap.size (fun _ => True) v0_ r ∧ Below w.heap.size w w' := by
  unfold recipe_fates.f at h
  split at h
  case isFalse => cases h
  rename_i hv
  obtain ⟨hv, hl0⟩ := hv
  have Hr := Aside0.mk (Option.some.inj h)
  have HV := Aside0.mk hv
  have hlen : l0.length ≤ 100 := hv.vld.few
  have HR0 := Aside0.mk hr0
  have HC0 := Aside0.mk hc0
  clear hr0 hc0 hv h
  have hmf : ∀ (fn : Fn) (first cap : Array Value) (w : World), (Instr.makeFunc fn first cap).run Try.prog w = .ok (.func fn first cap) w := fun _ _ _ _ => rfl
  have hsf := fun (a : Addr) (c : Array Value) (w : World) => run_store Try.prog w a (.func (.func 34) #[] c) .plain rfl
  go_enter Try.func28, Try.ntmps28
  go_wp2_with (first
    | ((with_reducible refine gate_dst (N := 9) rfl ?_); refine Kd.R_make k51 _ 51 rfl (N := 9) rfl 52 _ _ rfl (l0.length : Int) rfl rfl Try.underlying52 (.agg #[(.bool false), (.int .i64 0)]) 16 info51 rfl (by decide) (by omega) z51 (ok := fun _ => True) (okp := fun _ => True) (k51_mkM _ _ _ z51 ) (fun _ hk => hk) trivial (by omega) (by omega) (Below.refl _ _) (Nat.le_refl _) ?_; intro v110 w7 ho8 hb hg_ hnew_; clear hg_ hnew_; obtain ⟨go, capo, ev, hgo, ho9⟩ := made_row rfl ho8 hl0; subst ev; have HO := Aside0.mk ho9; have HB1 := Aside0.mk (below_then (below_alloc (Below.refl _ _) _) (by simp) hb : Below w.heap.size w w7); have HBL := Aside0.mk (blk_below (blk_new w (.cells #[.slice A0 l0.length c0] 25)) hb); have hs1 := hb.size; obtain ⟨cl1, cl1'⟩ := cell_of HBL.out; have cl0 := blk_lt HBL.out; clear ho8 ho9 hb)
    | ((with_reducible refine gate_dst (N := 12) rfl ?_); refine Kd.R_make Kd.bool _ 4 rfl (N := 12) rfl 41 _ _ rfl (l0.length : Int) rfl rfl Try.underlying41 (.bool false) 1 info4 rfl (by decide) (by omega) false (ok := fun _ => True) (okp := fun _ => True) rfl (fun _ hk => hk) trivial (by omega) (by omega) (Below.refl _ _) (Nat.le_refl _) ?_; intro v111 w8 ho8 hb hg_ hnew_; clear hg_ hnew_; obtain ⟨gd, capd, ev, hgd, ho9⟩ := made_row rfl ho8 hl0; subst ev; have HD := Aside0.mk ho9; have HB2 := Aside0.mk hb; have hs2 := hb.size; have HBL8 := Aside0.mk (blk_below ((Below.heap_alloc _ _ _ cl0).trans HBL.out) hb); have HBO8 := Aside0.mk (blk_below (blk_new w7 (.cells #[.slice (some ⟨go, 0, none⟩) l0.length capo] 52)) hb); obtain ⟨cm1, cm1'⟩ := cell_of HBL8.out; have cm0 := blk_lt HBL8.out; obtain ⟨cn1, cn1'⟩ := cell_of HBO8.out; have cn0 := blk_lt HBO8.out; clear ho8 ho9 hb))
  clear hmf hsf
  obtain ⟨w9, hw9⟩ : ∃ w9, w9 = (w8.alloc (.cells #[.slice (some ⟨gd, 0, none⟩) l0.length capd] 41)).alloc (.cells #[.func (.func 34) #[] #[ptr w8.heap.size, ptr w7.heap.size, ptr w.heap.size, ptr (w8.heap.size + 1)]] 64) := ⟨_, rfl⟩
  have q1 : Below w8.heap.size w8 w9 := hw9 ▸ below_then (below_alloc (Below.refl _ _) _) (by simp) (below_alloc (Below.refl _ _) _)
  have b1 : w9.heap[w8.heap.size]? = some (.cells #[.slice (some ⟨gd, 0, none⟩) l0.length capd] 41 (0, 0)) := hw9 ▸ (Below.heap_alloc _ _ _ (by simp)).trans (blk_new w8 _)
  have b2 : w9.heap[w8.heap.size + 1]? = some (.cells #[.func (.func 34) #[] #[ptr w8.heap.size, ptr w7.heap.size, ptr w.heap.size, ptr (w8.heap.size + 1)]] 64 (0, 0)) := by
    rw [hw9]
    have := blk_new (w8.alloc (.cells #[.slice (some ⟨gd, 0, none⟩) l0.length capd] 41)) (.cells #[.func (.func 34) #[] #[ptr w8.heap.size, ptr w7.heap.size, ptr w.heap.size, ptr (w8.heap.size + 1)]] 64)
    rwa [World.size_alloc] at this
  have hgo' : w.heap.size ≤ go := by simp at hgo; omega
  have hgd' : w.heap.size ≤ gd := by simp at hgd hs1; omega
  have B8 : Below w7.heap.size w7 w8 := below_then (below_alloc (Below.refl _ _) _) (by simp) HB2.out
  have B9 : Below w.heap.size w w9 := below_then (below_then HB1.out (by simp at hs1; omega) B8) (by simp at hs1 hs2; omega) q1
  have FW9 : FW l0 A0 c0 w8.heap.size w7.heap.size w.heap.size (w8.heap.size + 1) gd go capd capo w.heap.size w9 (List.replicate l0.length false) (List.replicate l0.length z51) :=
    ⟨b1, blk_below HBO8.out q1, blk_below HBL8.out q1, b2, Kd.R_below (Kd.R_lower HD.out (by simp at hs1 ⊢; omega)) q1, Kd.R_below (Kd.R_below (Kd.R_lower HO.out (by simp)) B8) q1,
      Kd.C_kept_came heap43 HR0.out B9 (fun k hk => by rcases hk with rfl | rfl <;> assumption)⟩
  have HFW := Aside0.mk FW9
  have HB9 := Aside0.mk B9
  have HFI := Aside0.mk (FI.start l0)
  have hw9s : w7.heap.size < w9.heap.size := blk_lt FW9.ho
  have hw9t : w8.heap.size + 1 < w9.heap.size := blk_lt FW9.hf
  rw [← hw9]
  clear hw9 q1 b1 b2 B8 B9 FW9 cl1 cl1' cm1 cm1' cn1 cn1'
  go_loopg [16] (l0.length + 1) (fun gk v16 wr => ∃ (i : Int) (D : List Bool) (F : List S51), v16 = .int .i64 i ∧ 0 ≤ i ∧ i ≤ (l0.length : Int) ∧ Aside0 (l0.length - i.toNat < gk) ∧ Aside0 (FI l0 (fun _ => False) D F) ∧ Aside0 (∀ j, 0 ≤ j → j < i → rdOf false D j = true) ∧
    Aside0 (FW l0 A0 c0 w8.heap.size w7.heap.size w.heap.size (w8.heap.size + 1) gd go capd capo w.heap.size wr D F) ∧ Aside0 (Below w.heap.size w wr))
  case atStart => exact ⟨0, _, _, rfl, by omega, by omega, ⟨by omega⟩, HFI, ⟨fun j a b => by omega⟩, HFW, HB9⟩
  case round =>
    obtain ⟨i, D, F, rfl, i0, i1, HG, HI, HD1, HW, HB⟩ := hrel
    obtain ⟨f1, f1'⟩ := cell_of HW.out.hf
    by_cases hlt : i < (l0.length : Int)
    · have hlt' : decide (i < (l0.length : Int)) = true := decide_eq_true hlt
      go_wp2_with fail
      refine (of_calls HV.out HC0.out (unm D + 1) i (fun _ => False) D F wr (Nat.lt_succ_self _) i0 hlt HI.out (fun p hp => hp.elim) HW.out).mono ?_
      rintro e w2 ⟨⟨D2, F2, rfl, hI2, hd2, hu2, hm2, hW2, hk2, hs2⟩⟩
      have HI2 := Aside0.mk hI2
      have HW2 := Aside0.mk hW2
      have HD2 : Aside0 (∀ j, 0 ≤ j → j < i + 1 → rdOf false D2 j = true) := ⟨fun j a b => by
        by_cases e : j = i
        · rw [e]; exact hd2
        · exact hm2 j a (HD1.out j a (by omega))⟩
      have HB2 : Aside0 (Below w.heap.size w w2) := ⟨hs2.below HB.out hk2 HB.out.size (fun j hj => by rcases hj with rfl | rfl <;> assumption)⟩
      clear hI2 hd2 hu2 hm2 hW2 hk2 hs2
      go_wp2
      go_roundg (gk - 1)
      case measure => have := HG.out; omega
      case rel => exact ⟨i + 1, D2, F2, by go_num, by omega, by omega, ⟨by have := HG.out; omega⟩, HI2, HD2, HW2, HB2⟩
    · have hlt' : decide (i < (l0.length : Int)) = false := decide_eq_false hlt
      obtain ⟨g1, g1'⟩ := cell_of HW.out.ho
      have HE : Aside0 (F = r) := ⟨(fates_list HI.out (fun j a b => HD1.out j a (by omega))).trans Hr.out⟩
      go_wp2
      go_ret
      exact ⟨_, rfl, by rw [← HE.out]; exact Kd.R_mono HW.out.rF (fun _ _ => trivial), HB.out⟩
end Go.Proofs.Ytgahkloigbhgdaa.PR
