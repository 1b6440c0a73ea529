/- recipe.fates and the closure in it: what they answer. Conditions: the recipes are right. -/
import Derived.Test.YtgahkloigbhgdaaRf
import Derived.LoopN
import Derived.Laws.NewBlocks
import Derived.RegionTactic
import Derived.ChangeAlike
namespace Go.Proofs.Ytgahkloigbhgdaa.PR
open Go.RowKit Go.Proofs.YtgahkloigbhgdaaW.PrintWords Go.Proofs.YtgahkloigbhgdaaW.PrintLast Go.Proofs.YtgahkloigbhgdaaW.PrintMore
set_option linter.unusedVariables false
set_option linter.unusedSimpArgs false

theorem heap43 : Kd.Heap k43 := Kd.heap_iso _ (Kd.heap_pair (Kd.heap_slice 3 (Kd.heap_int _)) (Kd.heap_pair (Kd.heap_int _) (Kd.heap_pair (Kd.heap_int _) (Kd.heap_pair (Kd.heap_int _) (Kd.heap_int _)))))
abbrev ptr (b : Nat) : Value := .pointer (some ⟨b, 0, none⟩)
def SS (gd go : Nat) : Nat → Prop := fun k => k = gd ∨ k = go

/-- The outside, the tape and the output stay. -/
def Sm (w w' : World) : Prop := w'.os = w.os ∧ w'.tape = w.tape ∧ w'.output = w.output
theorem Sm.trans {w w1 w2 : World} (h : Sm w w1) (k : Sm w1 w2) : Sm w w2 := ⟨k.1.trans h.1, k.2.1.trans h.2.1, k.2.2.trans h.2.2⟩
theorem Sm.below {w w1 w2 : World} {B : Nat} (h : Below B w w1) (k : Sm w1 w2) {S : Nat → Prop} (hk : Kept w1 w2 S) (hB : B ≤ w1.heap.size) (hS : ∀ i, S i → B ≤ i) : Below B w w2 :=
  ⟨k.1.trans h.os, k.2.1.trans h.tape, k.2.2.trans h.output, Nat.le_trans h.size hk.1, fun i hi => (hk.2 i (Nat.lt_of_lt_of_le hi hB) (fun hs => by have := hS i hs; omega)).trans (h.block i hi)⟩
/-- The closure's variables in memory. -/
structure FW (l : List S43) (A : Option Addr) (c bd bo bl bf gd go capd capo base : Nat) (w : World) (D : List Bool) (F : List S51) : Prop where
  hd : w.heap[bd]? = some (.cells #[.slice (some ⟨gd, 0, none⟩) l.length capd] 41 (0, 0))
  ho : w.heap[bo]? = some (.cells #[.slice (some ⟨go, 0, none⟩) l.length capo] 52 (0, 0))
  hl : w.heap[bl]? = some (.cells #[.slice A l.length c] 25 (0, 0))
  hf : w.heap[bf]? = some (.cells #[.func (.func 34) #[] #[ptr bd, ptr bo, ptr bl, ptr bf]] 64 (0, 0))
  rD : Kd.R Kd.bool 4 w base (fun k => k = gd) (.slice (some ⟨gd, 0, none⟩) l.length capd) D
  rF : Kd.R k51 51 w base (fun k => k = go) (.slice (some ⟨go, 0, none⟩) l.length capo) F
  rL : ∀ W', Kept w W' (SS gd go) → Kd.C k43 W' A l.length l

theorem cells51 {w : World} {go n cap base : Nat} {ok : Nat → Prop} {F : List S51} (h : Kd.R k51 51 w base ok (.slice (some ⟨go, 0, none⟩) n cap) F) (k : Int) (h0 : 0 ≤ k) (h1 : k < n) :
    w.cell? ⟨go, k.toNat * 2, none⟩ = some (.bool (rd_T51 F k).f0) ∧ w.cell? ⟨go, k.toNat * 2 + 1, none⟩ = some (.int .i64 (rd_T51 F k).f1) := by
  obtain ⟨e, _, hC⟩ := Kd.R_reads' h
  obtain ⟨ad, ea, a, b⟩ := at_T51 hC k h0 (by omega)
  cases ea
  rw [add_plain] at a b
  exact ⟨a, b⟩
theorem cell_of {w : World} {b t : Nat} {x : Value} (h : w.heap[b]? = some (.cells #[x] t (0, 0))) : w.cell? ⟨b, 0, none⟩ = some x ∧ w.frozen? ⟨b, 0, none⟩ = false := ⟨(blk_cell h 0).trans rfl, by simp [World.frozen?, h]⟩

theorem typ_ne {w : World} {b g t t' : Nat} {c c' : Array Value} (h : w.heap[b]? = some (.cells c t (0, 0))) (h' : w.heap[g]? = some (.cells c' t' (0, 0))) (ht : t ≠ t') : b ≠ g := by
  intro e; subst e; rw [h] at h'; injection h' with h'; injection h' with _ h'; exact ht h'
section
variable {l : List S43} {A : Option Addr} {c bd bo bl bf gd go capd capo base : Nat} {w w' : World} {D : List Bool} {F : List S51}
theorem FW.apart (h : FW l A c bd bo bl bf gd go capd capo base w D F) : (bd ≠ gd ∧ bd ≠ go) ∧ (bo ≠ gd ∧ bo ≠ go) ∧ (bl ≠ gd ∧ bl ≠ go) ∧ (bf ≠ gd ∧ bf ≠ go) ∧ gd ≠ go := by
  obtain ⟨cd, hgd⟩ := Kd.R_typed h.rD gd rfl
  obtain ⟨co, hgo⟩ := Kd.R_typed h.rF go rfl
  exact ⟨⟨typ_ne h.hd hgd (by decide), typ_ne h.hd hgo (by decide)⟩, ⟨typ_ne h.ho hgd (by decide), typ_ne h.ho hgo (by decide)⟩, ⟨typ_ne h.hl hgd (by decide), typ_ne h.hl hgo (by decide)⟩, ⟨typ_ne h.hf hgd (by decide), typ_ne h.hf hgo (by decide)⟩, typ_ne hgd hgo (by decide)⟩
theorem FW.keep {D' : List Bool} {F' : List S51} (h : FW l A c bd bo bl bf gd go capd capo base w D F) (hk : Kept w w' (SS gd go)) (hD : Kd.R Kd.bool 4 w' base (fun k => k = gd) (.slice (some ⟨gd, 0, none⟩) l.length capd) D')
    (hF : Kd.R k51 51 w' base (fun k => k = go) (.slice (some ⟨go, 0, none⟩) l.length capo) F') : FW l A c bd bo bl bf gd go capd capo base w' D' F' := by
  obtain ⟨⟨a1, a2⟩, ⟨a3, a4⟩, ⟨a5, a6⟩, ⟨a7, a8⟩, a9⟩ := h.apart
  exact ⟨blk_kept h.hd hk (by simp [SS, a1, a2]), blk_kept h.ho hk (by simp [SS, a3, a4]), blk_kept h.hl hk (by simp [SS, a5, a6]), blk_kept h.hf hk (by simp [SS, a7, a8]), hD, hF, Kd.C_kept_step h.rL hk⟩
theorem FW.same (h : FW l A c bd bo bl bf gd go capd capo base w D F) (hk : Kept w w' (fun _ => False)) : FW l A c bd bo bl bf gd go capd capo base w' D F :=
  h.keep (hk.mono (fun _ x => x.elim)) (Kd.R_kept h.rD hk (fun _ _ x => x)) (Kd.R_kept h.rF hk (fun _ _ x => x))
end

/-- The world with two blocks blotted out. -/
def wx (w : World) (gd go : Nat) : World := { w with heap := (w.heap.setIfInBounds gd (.map #[] 0)).setIfInBounds go (.map #[] 0) }
theorem wx_kept (w : World) (gd go : Nat) : Kept w (wx w gd go) (SS gd go) := by
  refine ⟨by simp [wx], fun i hi hn => ?_⟩
  simp only [SS, not_or] at hn
  simp only [wx]
  rw [Array.getElem?_setIfInBounds_ne (fun e => hn.2 e.symm), Array.getElem?_setIfInBounds_ne (fun e => hn.1 e.symm)]
theorem wx_cell {w : World} {gd go : Nat} {a : Addr} {v : Value} (h : (wx w gd go).cell? a = some v) : (a.block ≠ gd ∧ a.block ≠ go) ∧ w.cell? a = some v := by
  have h1 : a.block < w.heap.size := by have := World.block_lt_of_cell? _ a h; simpa [wx] using this
  have hg : a.block ≠ go := by
    intro e
    simp [World.cell?, wx, e, Array.getElem?_setIfInBounds] at h
  have hd : a.block ≠ gd := by
    intro e
    simp only [World.cell?, wx] at h
    rw [Array.getElem?_setIfInBounds_ne (fun e' => hg e'.symm), e, Array.getElem?_setIfInBounds_self_of_lt (by rw [← e]; exact h1)] at h
    simp at h
  refine ⟨⟨hd, hg⟩, ?_⟩
  simp only [World.cell?, wx] at h ⊢
  rw [Array.getElem?_setIfInBounds_ne (fun e' => hg e'.symm), Array.getElem?_setIfInBounds_ne (fun e' => hd e'.symm)] at h
  exact h
theorem cell_other {w : World} {a p : Addr} {u v : Value} (h : w.cell? a = some v) (hn : a.block ≠ p.block) : (w.setCell p u).cell? a = some v := by
  have := Below.heap_setCell w p u a.block hn
  simpa [World.cell?, this] using h

theorem setCell_here {w : World} {b t j : Nat} {cs : Array Value} {v : Value} (h : w.heap[b]? = some (.cells cs t (0, 0))) : (w.setCell ⟨b, j, none⟩ v).heap[b]? = some (.cells (cs.setIfInBounds j v) t (0, 0)) := by
  have hlt := blk_lt h
  simp only [World.setCell, Array.getElem?_modify, if_true, h, Option.map_some]
  rfl
theorem set2_here {w : World} {b t : Nat} {x y x' y' : Value} (h : w.heap[b]? = some (.cells #[x, y] t (0, 0))) : ((w.setCell ⟨b, 0, none⟩ x').setCell ⟨b, 1, none⟩ y').heap[b]? = some (.cells #[x', y'] t (0, 0)) := by
  rw [setCell_here (setCell_here h)]; rfl
theorem frozen51 {w : World} {go n cap base : Nat} {ok : Nat → Prop} {F : List S51} (h : Kd.R k51 51 w base ok (.slice (some ⟨go, 0, none⟩) n cap) F) (j : Nat) : w.frozen? ⟨go, j, none⟩ = false := by
  obtain ⟨cells, hg⟩ := Kd.R_typed h go rfl
  simp [World.frozen?, hg]
theorem put51 {w : World} {go n cap base : Nat} {ok : Nat → Prop} {F : List S51} (h : Kd.R k51 51 w base ok (.slice (some ⟨go, 0, none⟩) n cap) F) (k : Int) (h0 : 0 ≤ k) (h1 : k < n) (x : S51) :
    Kd.R k51 51 ((w.setCell ⟨go, k.toNat * 2, none⟩ (.bool x.f0)).setCell ⟨go, k.toNat * 2 + 1, none⟩ (.int .i64 x.f1)) base ok (.slice (some ⟨go, 0, none⟩) n cap) (F.set k.toNat x) := by
  obtain ⟨a, b⟩ := cells51 h k h0 h1
  exact (Kd.R_seg (d := k51) (okp := fun _ => False) h k h0 h1 (c := [.bool (rd_T51 F k).f0, .int .i64 (rd_T51 F k).f1]) (seg := [.bool x.f0, .int .i64 x.f1]) (j := 0) rfl (fun j u hu => by
    rcases j with _ | _ | j
    · cases hu; exact a
    · cases hu; exact b
    · simp at hu) (by show (2 : Nat) ≤ 2; omega) (k51_mkM _ _ _ x) (fun _ h => h.elim)).1
/-- The variables, where the call's own new blocks alone have turned. -/
theorem FW.move {l : List S43} {A : Option Addr} {c bd bo bl bf gd go capd capo base : Nat} {w w2 w3 : World} {D D2 : List Bool} {F F2 : List S51} (h0 : FW l A c bd bo bl bf gd go capd capo base w D F) (h : FW l A c bd bo bl bf gd go capd capo base w2 D2 F2)
    (hk0 : Kept w w3 (SS gd go)) (hk : Kept w2 w3 (fun k => w.heap.size ≤ k)) : FW l A c bd bo bl bf gd go capd capo base w3 D2 F2 := by
  have e1 := blk_lt h0.hd
  have e2 := blk_lt h0.ho
  have e3 := blk_lt h0.hl
  have e4 := blk_lt h0.hf
  have e5 := Kd.R_lt h0.rD gd rfl
  have e6 := Kd.R_lt h0.rF go rfl
  exact ⟨blk_kept h.hd hk (by omega), blk_kept h.ho hk (by omega), blk_kept h.hl hk (by omega), blk_kept h.hf hk (by omega), Kd.R_kept h.rD hk (fun k e => by subst e; omega), Kd.R_kept h.rF hk (fun k e => by subst e; omega), Kd.C_kept_step h0.rL hk0⟩
theorem set_in {w wr : World} {S : Nat → Prop} (h : Kept w wr S) {b j : Nat} (v : Value) (hb : S b ∨ w.heap.size ≤ b) : Kept w (wr.setCell ⟨b, j, none⟩ v) S := h.setCell hb v
theorem FW.end5 {l : List S43} {A : Option Addr} {c bd bo bl bf gd go capd capo base : Nat} {w wr w1 w2 w3 : World} {D D1 : List Bool} {F F1 : List S51} (h0 : FW l A c bd bo bl bf gd go capd capo base w D F) (h : FW l A c bd bo bl bf gd go capd capo base wr D1 F1)
    (hk0 : Kept w wr (SS gd go)) {k : Int} (k0 : 0 ≤ k) (k1 : k < (l.length : Int)) {b6 b7 : Nat} (n6 : w.heap.size ≤ b6) (n7 : w.heap.size ≤ b7) (v7 v6 v6' : Value) (x : S51)
    (e1 : w1 = wr.setCell ⟨b7, 1, none⟩ v7) (e2 : w2 = (w1.setCell ⟨go, k.toNat * 2, none⟩ (.bool x.f0)).setCell ⟨go, k.toNat * 2 + 1, none⟩ (.int .i64 x.f1)) (e3 : w3 = (w2.setCell ⟨b6, 0, none⟩ v6).setCell ⟨b6, 1, none⟩ v6') :
    FW l A c bd bo bl bf gd go capd capo base w3 D1 (F1.set k.toNat x) ∧ Kept w w3 (SS gd go) := by
  have hg : SS gd go go := .inr rfl
  have k1' : Kept w w1 (SS gd go) := e1 ▸ set_in hk0 v7 (.inr n7)
  have a1 := h0.move h k1' (e1 ▸ set_in (Kept.refl wr _) v7 (.inl n7))
  have r2 := put51 a1.rF k k0 k1 x
  rw [← e2] at r2
  have k2 : Kept w w2 (SS gd go) := e2 ▸ set_in (set_in k1' _ (.inl hg)) _ (.inl hg)
  have k3 : Kept w1 w2 (fun k => k = go) := e2 ▸ set_in (set_in (Kept.refl w1 (fun k => k = go)) _ (.inl rfl)) _ (.inl rfl)
  have a9 := h0.apart.2.2.2.2
  have a2 : FW l A c bd bo bl bf gd go capd capo base w2 D1 (F1.set k.toNat x) := a1.keep (k3.mono (fun _ e => .inr e)) (Kd.R_kept a1.rD k3 (fun k e => by subst e; exact a9)) r2
  have k4 : Kept w w3 (SS gd go) := e3 ▸ set_in (set_in k2 _ (.inr n6)) _ (.inr n6)
  exact ⟨h0.move a2 k4 (e3 ▸ set_in (set_in (Kept.refl w2 _) _ (.inl n6)) _ (.inl n6)), k4⟩
theorem res34 {tmps : Array Value} {w : World} {b : Nat} {x y : Value} (ht : tmps[6]? = some (.pointer (some ⟨b, 0, none⟩))) (h : w.heap[b]? = some (.cells #[x, y] 51 (0, 0))) :
    (results Try.f34 tmps).run Try.prog w = .ok (.agg #[x, y]) w := by
  have c1 : w.cell? ⟨b, 0, none⟩ = some x := (blk_cell h 0).trans rfl
  have c2 : w.cell? ⟨b, 1, none⟩ = some y := (blk_cell h 1).trans rfl
  simp [results, Try.results34, go_sem, ht, c1, c2]
theorem cells2_of {w : World} {b t : Nat} {x y : Value} (h : w.heap[b]? = some (.cells #[x, y] t (0, 0))) : w.cell? ⟨b, 0, none⟩ = some x ∧ w.cell? ⟨b, 1, none⟩ = some y ∧ w.frozen? ⟨b, 0, none⟩ = false ∧ w.frozen? ⟨b, 1, none⟩ = false ∧ b < w.heap.size :=
  ⟨(blk_cell h 0).trans rfl, (blk_cell h 1).trans rfl, by simp [World.frozen?, h], by simp [World.frozen?, h], blk_lt h⟩
/-- How the sum stands behind i needs. -/
structure LI (l : List S43) (k i : Int) (cn : Bool) (gi : Int) : Prop where
  can : cn = true ↔ act l k = 0 ∧ ∀ m ∈ (nds l k).take i.toNat, Can l m
  sum : gi = valu l k + part l ((nds l k).take i.toNat)
  lo : -1000 ≤ gi
  hi : gi ≤ 1000 + i * 1000002
theorem part_snoc (l : List S43) (ms : List Int) (m : Int) : part l (ms ++ [m]) = part l ms + (fateOf l m).f1 := by simp [part]
theorem take_rd {xs : List Int} {i : Int} (h0 : 0 ≤ i) (h1 : i < (xs.length : Int)) : xs.take (i + 1).toNat = xs.take i.toNat ++ [rd xs i] := by
  have hi : i.toNat < xs.length := by omega
  rw [show (i + 1).toNat = i.toNat + 1 by omega, List.take_succ_eq_append_getElem hi]
  simp [rd, List.getD_eq_getElem?_getD, List.getElem?_eq_getElem hi]
theorem LI.step {l : List S43} {k i gi : Int} {cn : Bool} (h : LI l k i cn gi) (h0 : 0 ≤ i) (h1 : i < ((nds l k).length : Int)) :
    LI l k (i + 1) (cn && (fateOf l (rd (nds l k) i)).f0) (gi + (fateOf l (rd (nds l k) i)).f1) := by
  have hr := fate_range l (rd (nds l k) i)
  refine ⟨?_, ?_, by have := h.lo; omega, by have := h.hi; omega⟩
  · rw [take_rd h0 h1, Bool.and_eq_true, h.can, fate_can]
    constructor
    · rintro ⟨⟨a, b⟩, d⟩
      refine ⟨a, fun m hm => ?_⟩
      rcases List.mem_append.1 hm with hm | hm
      · exact b m hm
      · rw [List.mem_singleton.1 hm]; exact d
    · rintro ⟨a, b⟩
      exact ⟨⟨a, fun m hm => b m (List.mem_append.2 (.inl hm))⟩, b _ (List.mem_append.2 (.inr (List.mem_singleton.2 rfl)))⟩
  · rw [take_rd h0 h1, part_snoc, h.sum]; omega

theorem mod_go {g : Int} (h0 : -4611686018427387904 ≤ g) (h1 : g ≤ 4611686018427387904) : (wrap64 (g.tmod 1000003 + 1000003)).tmod 1000003 = g % 1000003 := by
  have e : g.tmod 1000003 = if 0 ≤ g then g % 1000003 else -((-g) % 1000003) := by
    split
    · exact Int.tmod_eq_emod_of_nonneg ‹_›
    · have := Int.tmod_eq_emod_of_nonneg (a := -g) (b := 1000003) (by omega)
      rw [Int.neg_tmod] at this; omega
  have e2 : wrap64 (g.tmod 1000003 + 1000003) = g.tmod 1000003 + 1000003 := by rw [e]; unfold wrap64; split <;> omega
  rw [e2, Int.tmod_eq_emod_of_nonneg (by rw [e]; split <;> omega), e]
  split <;> omega

/-- What the closure's call comes to. -/
structure OfPost (l : List S43) (A : Option Addr) (c bd bo bl bf gd go capd capo base : Nat) (P : Int → Prop) (D : List Bool) (k : Int) (w : World) (e : Ending) (w' : World) : Prop where
  out : ∃ D' F', e = .returned (.agg #[.bool (fateOf l k).f0, .int .i64 (fateOf l k).f1]) ∧
      FI l P D' F' ∧ rdOf false D' k = true ∧ unm D' ≤ unm D ∧ (∀ j, 0 ≤ j → rdOf false D j = true → rdOf false D' j = true) ∧ FW l A c bd bo bl bf gd go capd capo base w' D' F' ∧ Kept w w' (SS gd go) ∧ Sm w w'

set_option maxHeartbeats 8000000 in
set_option maxRecDepth 100000 in
theorem of_calls {l : List S43} {A : Option Addr} {c bd bo bl bf gd go capd capo base : Nat} (hr : Rgt l) (hc : l.length ≤ c) : ∀ (N : Nat) (k : Int) (P : Int → Prop) (D : List Bool) (F : List S51) (w : World),
    unm D < N → 0 ≤ k → k < (l.length : Int) → FI l P D F → (∀ p, P p → Rch l p k) → FW l A c bd bo bl bf gd go capd capo base w D F →
    Calls Try.prog 34 #[.int .i64 k, ptr bd, ptr bo, ptr bl, ptr bf] w fun e w' => OfPost l A c bd bo bl bf gd go capd capo base P D k w e w' := by
  intro N
  induction N with
  | zero => intro k P D F w h; omega
  | succ N ih =>
    intro k P D F w hN k0 k1 HI hP HW
    have IH := Aside0.mk ih
    clear ih
    have HI' := Aside0.mk HI
    have HP := Aside0.mk hP
    have HW' := Aside0.mk HW
    clear HI HW
    obtain ⟨d1, d1'⟩ := cell_of HW'.out.hd
    obtain ⟨o1, o1'⟩ := cell_of HW'.out.ho
    obtain ⟨l1, l1'⟩ := cell_of HW'.out.hl
    obtain ⟨f1, f1'⟩ := cell_of HW'.out.hf
    obtain ⟨d2, d2'⟩ := Kd.R_celln (d := false) HW'.out.rD k k0 k1
    obtain ⟨o2, o3⟩ := cells51 HW'.out.rF k k0 k1
    have bd0 := blk_lt HW'.out.hd
    have bo0 := blk_lt HW'.out.ho
    have bl0 := blk_lt HW'.out.hl
    have bf0 := blk_lt HW'.out.hf
    have gd0 := Kd.R_lt HW'.out.rD gd rfl
    have go0 := Kd.R_lt HW'.out.rF go rfl
    by_cases hd : rdOf false D k = true
    · have hT := Aside0.mk (HI'.out.told k0 k1 hd hP)
      rw [hd] at d2
      go_enter Try.func34, Try.ntmps34
      go_wp2
      refine bodyPost_ret (v := .agg #[.bool (rd_T51 F k).f0, .int .i64 (rd_T51 F k).f1]) (by simp [results, Try.results34, go_sem]) rfl ⟨⟨D, F, ?_, HI'.out, hd, Nat.le_refl _, fun _ _ h => h, ?_, ?_, ⟨rfl, rfl, rfl⟩⟩⟩
      · rw [hT.out]
      · exact HW'.out.same ((Kept.refl _ _).alloc _)
      · exact (Kept.refl _ _).alloc _
    · simp only [Bool.not_eq_true] at hd
      rw [hd] at d2
      obtain ⟨⟨a1, a2⟩, ⟨a3, a4⟩, ⟨a5, a6⟩, ⟨a7, a8⟩, a9⟩ := HW'.out.apart
      obtain ⟨ad, A1, c1, eA, g0, gL, gA, gV, gE, gl, gC⟩ := at_T43 (HW'.out.rL _ (wx_kept w gd go)) k k0 k1
      have GC := Aside0.mk gC
      obtain ⟨⟨x1, x2⟩, x3⟩ := wx_cell g0
      have gad := World.block_lt_of_cell? w _ x3
      have x4 := (wx_cell gA).2
      have x5 := (wx_cell gV).2
      have x6 := cell_other (p := ⟨gd, k.toNat, none⟩) (u := .bool true) x3 x1
      subst eA
      clear gL gE gA gV g0 gC
      go_enter Try.func34, Try.ntmps34
      go_wp2
      go_region
      go_wp2
      clear d2 d2' o2 o3
      have hb1 : (w.heap.size : Nat) ≠ gd := by omega
      go_loopg [40] ((nds l k).length + 1) (fun gi v40 wr => ∃ (i : Int) (D1 : List Bool) (F1 : List S51) (cn : Bool) (gs : Int), v40 = .int .i64 i ∧ 0 ≤ i ∧ i ≤ ((nds l k).length : Int) ∧ Aside0 ((nds l k).length - i.toNat < gi) ∧ Aside0 (FI l (fun m => P m ∨ m = k) D1 F1) ∧ Aside0 (unm D1 < unm D ∧ ∀ j, 0 ≤ j → rdOf false D j = true → rdOf false D1 j = true) ∧
        Aside0 (FW l (some ad) c bd bo bl bf gd go capd capo base wr D1 F1) ∧ Aside0 (Kept w wr (SS gd go)) ∧ Aside0 (Sm w wr) ∧ Aside0 (wr.heap[w.heap.size + 1]? = some (.cells #[.bool cn, .int .i64 gs] 51 (0, 0))) ∧ Aside0 (wr.heap[w.heap.size]? = some (.cells #[.bool false, .int .i64 0] 51 (0, 0))) ∧ Aside0 (LI l k i cn gs))
      case atStart =>
        obtain ⟨w4, hw4⟩ : ∃ w4, w4 = w.setCell ⟨gd, k.toNat, none⟩ (.bool true) := ⟨_, rfl⟩
        rw [← hw4]
        have hS : SS gd go gd := .inl rfl
        have q1 : Kept w w4 (SS gd go) := hw4 ▸ set_in (Kept.refl w _) _ (.inl hS)
        have q2 : Kept w w4 (fun j => j = gd) := hw4 ▸ set_in (Kept.refl w (fun j => j = gd)) _ (.inl rfl)
        have r1 : Kd.R Kd.bool 4 w4 base (fun k => k = gd) (.slice (some ⟨gd, 0, none⟩) l.length capd) (D.set k.toNat true) := hw4 ▸ Kd.R_putn (h1 := fun _ => rfl) HW'.out.rD k true
        have r2 := Kd.R_kept HW'.out.rF q2 (fun j e => by subst e; exact a9.symm)
        have HW4 := HW'.out.keep q1 r1 r2
        have hz : w4.heap.size = w.heap.size := by rw [hw4]; simp [World.setCell]
        obtain ⟨w5, hw5⟩ : ∃ w5, w5 = ((w4.alloc (.cells #[.bool false, .int .i64 0] 51)).alloc (.cells #[.bool ((rd_T43 l k).f2 == 0), .int .i64 (rd_T43 l k).f3] 51)).drew := ⟨_, rfl⟩
        have q3 : Kept w4 w5 (fun _ => False) := hw5 ▸ (((Kept.refl w4 _).alloc _).alloc _).drew
        have q4 : Kept w w5 (SS gd go) := q1.then_ q3 (fun _ h => h.elim)
        have h6 : w5.heap[w.heap.size]? = some (.cells #[.bool false, .int .i64 0] 51 (0, 0)) := by
          rw [hw5]
          show ((w4.alloc _).alloc _).heap[_]? = _
          exact (Below.heap_alloc _ _ _ (by simp; omega)).trans (by rw [← hz]; exact blk_new w4 _)
        have h7 : w5.heap[w.heap.size + 1]? = some (.cells #[.bool ((rd_T43 l k).f2 == 0), .int .i64 (rd_T43 l k).f3] 51 (0, 0)) := by
          rw [hw5]
          show ((w4.alloc (.cells #[.bool false, .int .i64 0] 51)).alloc _).heap[_]? = _
          have := blk_new (w4.alloc (.cells #[.bool false, .int .i64 0] 51)) (.cells #[.bool ((rd_T43 l k).f2 == 0), .int .i64 (rd_T43 l k).f3] 51)
          rw [show (w4.alloc (.cells #[.bool false, .int .i64 0] 51)).heap.size = w.heap.size + 1 by simp; omega] at this
          exact this
        have hu : unm (D.set k.toNat true) + 1 = unm D := unm_set (by rw [HI'.out.lenD]; omega) (by have := hd; unfold rdOf at this; exact this)
        have hv := hr.val k k0 k1
        have hL : LI l k 0 ((rd_T43 l k).f2 == 0) (rd_T43 l k).f3 := ⟨by simp [act], by simp [part, valu], hv.1, by have := hv.2; simp only [valu] at this; omega⟩
        have q5 : Sm w w5 := by rw [hw5, hw4]; exact ⟨rfl, rfl, rfl⟩
        rw [← hw5]
        exact ⟨0, D.set k.toNat true, F, _, _, rfl, by omega, by omega, ⟨by omega⟩, ⟨HI'.out.begin k0 k1 hd⟩, ⟨by omega, fun j hj h => by rw [rdOf_set k0 (by rw [HI'.out.lenD]; exact k1) hj]; split <;> simp [h]⟩, ⟨HW4.same q3⟩, ⟨q4⟩, ⟨q5⟩, ⟨h7⟩, ⟨h6⟩, ⟨hL⟩⟩
      case round =>
        obtain ⟨i, D1, F1, cn, gs, rfl, i0, i1, HG, HI1, HN1, HW1, HK1, HS1, H7, H6, HL⟩ := hrel
        have hn20 : (nds l k).length ≤ 20 := hr.vld.each k k0 k1
        have hlo := HL.out.lo
        have hhi := HL.out.hi
        by_cases hlt : i < ((nds l k).length : Int)
        · obtain ⟨m0, m1⟩ := hr.vld.keys k k0 k1 i i0 hlt
          have hmem := Aside0.mk (rd_mem i0 hlt)
          obtain ⟨ad2, e2, g2⟩ := Kd.at_int GC.out i i0 hlt
          subst e2
          obtain ⟨⟨y1, y2⟩, y3⟩ := wx_cell g2
          have y4 := cell_kept y3 HK1.out (by simp [SS, y1, y2])
          clear g2 y3
          obtain ⟨x, hx⟩ : ∃ x, x = rd (nds l k) i := ⟨_, rfl⟩
          have y5 : wr.cell? (ad2.add i.toNat) = some (.int .i64 x) := by rw [hx]; exact y4
          rw [← hx] at m0 m1
          have HX := Aside0.mk hx
          clear y4 hx
          obtain ⟨z1, z1'⟩ := cell_of HW1.out.hf
          have hlt' : decide (i < ((rd_T43 l k).f0.length : Int)) = true := decide_eq_true hlt
          go_wp2_with fail
          refine (IH.out x (fun m => P m ∨ m = k) D1 F1 wr (by have := HN1.out.1; omega) m0 m1 HI1.out (fun p hp => by
            have hm' : x ∈ nds l k := by rw [HX.out]; exact hmem.out
            rcases hp with hp | rfl
            · exact (HP.out p hp).snoc hm'
            · exact .one hm') HW1.out).mono ?_
          rintro e w2 ⟨⟨D2, F2, rfl, hI2, _, hu2, hm2, hW2, hk2, hs2⟩⟩
          have HI2 := Aside0.mk hI2
          have HW2 := Aside0.mk hW2
          have HK2 : Aside0 (Kept w w2 (SS gd go)) := ⟨HK1.out.then_ hk2 (fun _ h => .inl h)⟩
          have HU2 : Aside0 (unm D2 < unm D ∧ ∀ j, 0 ≤ j → rdOf false D j = true → rdOf false D2 j = true) := ⟨Nat.lt_of_le_of_lt hu2 HN1.out.1, fun j hj h => hm2 j hj (HN1.out.2 j hj h)⟩
          obtain ⟨b1, b2, _, _, b5, b6⟩ : (w.heap.size + 1 ≠ gd) ∧ (w.heap.size + 1 ≠ go) ∧ (w.heap.size ≠ gd) ∧ (w.heap.size ≠ go) ∧ True ∧ True := ⟨by omega, by omega, by omega, by omega, trivial, trivial⟩
          have H72 := Aside0.mk (blk_kept H7.out hk2 (by simp [SS, b1, b2]))
          have H62 := Aside0.mk (blk_kept H6.out hk2 (by simp [SS]; omega))
          have HS2 : Aside0 (Sm w w2) := ⟨HS1.out.trans hs2⟩
          clear hI2 hW2 hk2 hu2 hm2 hs2 y5 z1 z1'
          obtain ⟨t1, t2, t3, t4, t5⟩ := cells2_of H72.out
          have fr := fate_range l x
          obtain ⟨fg, hfg⟩ : ∃ fg, fg = (fateOf l x).f1 := ⟨_, rfl⟩
          obtain ⟨fc, hfc⟩ : ∃ fc, fc = (fateOf l x).f0 := ⟨_, rfl⟩
          rw [← hfg, ← hfc]
          rw [← hfg] at fr
          have HFG := Aside0.mk hfg
          have HFC := Aside0.mk hfc
          clear hfg hfc
          obtain ⟨fr0, fr1⟩ := fr
          have HL3 := HL.out.step i0 hlt
          rw [← HX.out, ← HFG.out, ← HFC.out] at HL3
          have HL4 := Aside0.mk HL3
          clear HL3
          have HK3 : ∀ (u v : Value) (o : Obj), Aside0 (Kept w (((w2.setCell ⟨w.heap.size + 1, 0, none⟩ u).setCell ⟨w.heap.size + 1, 1, none⟩ v).alloc o) (SS gd go) ∧ Kept w2 (((w2.setCell ⟨w.heap.size + 1, 0, none⟩ u).setCell ⟨w.heap.size + 1, 1, none⟩ v).alloc o) (fun k => w.heap.size ≤ k)) := fun u v o =>
            ⟨((HK2.out.setCell (.inr (by show w.heap.size ≤ w.heap.size + 1; omega)) _).setCell (.inr (by show w.heap.size ≤ w.heap.size + 1; omega)) _).alloc _, (((Kept.refl _ _).setCell (.inl (by show w.heap.size ≤ w.heap.size + 1; omega)) _).setCell (.inl (by show w.heap.size ≤ w.heap.size + 1; omega)) _).alloc _⟩
          have HK3' := Aside0.mk HK3
          clear HK3
          have t6 := blk_lt H62.out
          cases cn with
          | true =>
            go_wp2
            go_roundg (gk - 1)
            case measure => have := HG.out; omega
            case rel =>
              obtain ⟨q1, q2⟩ := (HK3'.out (.bool fc) (.int .i64 (gs + fg)) (.cells #[.bool fc, .int .i64 fg] 51)).out
              refine ⟨i + 1, D2, F2, fc, gs + fg, by go_num, by omega, by omega, ⟨by have := HG.out; omega⟩, HI2, HU2, ⟨HW'.out.move HW2.out q1 q2⟩, ⟨q1⟩, ⟨HS2.out.trans ⟨rfl, rfl, rfl⟩⟩, ⟨?_⟩, ⟨?_⟩, ⟨?_⟩⟩
              · exact (Below.heap_alloc _ _ _ (by simpa using t5)).trans (set2_here H72.out)
              · exact (Below.heap_alloc _ _ _ (by simpa using t6)).trans ((Below.heap_setCell _ _ _ _ (by simp)).trans ((Below.heap_setCell _ _ _ _ (by simp)).trans H62.out))
              · simpa using HL4.out
          | false =>
            go_wp2
            go_roundg (gk - 1)
            case measure => have := HG.out; omega
            case rel =>
              obtain ⟨q1, q2⟩ := (HK3'.out (.bool false) (.int .i64 (gs + fg)) (.cells #[.bool fc, .int .i64 fg] 51)).out
              refine ⟨i + 1, D2, F2, false, gs + fg, by go_num, by omega, by omega, ⟨by have := HG.out; omega⟩, HI2, HU2, ⟨HW'.out.move HW2.out q1 q2⟩, ⟨q1⟩, ⟨HS2.out.trans ⟨rfl, rfl, rfl⟩⟩, ⟨?_⟩, ⟨?_⟩, ⟨?_⟩⟩
              · exact (Below.heap_alloc _ _ _ (by simpa using t5)).trans (set2_here H72.out)
              · exact (Below.heap_alloc _ _ _ (by simpa using t6)).trans ((Below.heap_setCell _ _ _ _ (by simp)).trans ((Below.heap_setCell _ _ _ _ (by simp)).trans H62.out))
              · simpa using HL4.out
        · have hlt' : decide (i < ((rd_T43 l k).f0.length : Int)) = false := decide_eq_false hlt
          have EI : Aside0 (i = ((nds l k).length : Int)) := ⟨by omega⟩
          have HL9 : Aside0 (LI l k (nds l k).length cn gs) := ⟨EI.out ▸ HL.out⟩
          obtain ⟨t1, t2, t3, t4, t5⟩ := cells2_of H7.out
          obtain ⟨s1, s2, s3, s4, s5⟩ := cells2_of H6.out
          obtain ⟨o4, o4'⟩ := cell_of HW1.out.ho
          obtain ⟨o5, o6⟩ := cells51 HW1.out.rF k k0 k1
          have o7 := frozen51 HW1.out.rF (k.toNat * 2)
          have o8 := frozen51 HW1.out.rF (k.toNat * 2 + 1)
          have go1 := Kd.R_lt HW1.out.rF go rfl
          cases cn with
          | false =>
            have HC : Aside0 (¬ Can l k) := ⟨fun h => by have := HL9.out.can.2 (by have := can_iff.1 h; simpa using this); cases this⟩
            go_wp2
            obtain ⟨w5, hw5⟩ : ∃ w5, w5 = (wr.setCell ⟨w.heap.size, 0, none⟩ (.bool false)).setCell ⟨w.heap.size, 1, none⟩ (.int .i64 0) := ⟨_, rfl⟩
            have HK5 : Kept w w5 (SS gd go) := hw5 ▸ set_in (set_in HK1.out _ (.inr (Nat.le_refl _))) _ (.inr (Nat.le_refl _))
            have HK6 : Kept wr w5 (fun k => w.heap.size ≤ k) := hw5 ▸ set_in (set_in (Kept.refl wr _) _ (.inl (Nat.le_refl _))) _ (.inl (Nat.le_refl _))
            have H65 : w5.heap[w.heap.size]? = some (.cells #[.bool false, .int .i64 0] 51 (0, 0)) := hw5 ▸ set2_here H6.out
            have HP5 : OfPost l (some ad) c bd bo bl bf gd go capd capo base P D k w (.returned (.agg #[.bool false, .int .i64 0])) w5 := ⟨⟨D1, F1, by rw [fate_not HC.out]; rfl, HI1.out.endNo k0 k1 HC.out, (HI1.out.going k k0 k1 (.inr rfl)).1, by have := HN1.out.1; omega, HN1.out.2, HW'.out.move HW1.out HK5 HK6, HK5, hw5 ▸ HS1.out.trans ⟨rfl, rfl, rfl⟩⟩⟩
            rw [← hw5]
            exact bodyPost_ret (v := .agg #[.bool false, .int .i64 0]) (res34 rfl H65) rfl HP5
          | true =>
            have HC : Aside0 (fateOf l k = ⟨true, gs % 1000003⟩) := ⟨by
              have h1 := HL9.out.can.1 rfl
              rw [fate_yes h1.1 (by simpa using h1.2), HL9.out.sum]; simp⟩
            have HM := Aside0.mk (mod_go (g := gs) (by omega) (by omega))
            go_wp2
            rw [HM.out]
            obtain ⟨w4, hw4⟩ : ∃ w4, w4 = wr.setCell ⟨w.heap.size + 1, 1, none⟩ (.int .i64 (gs % 1000003)) := ⟨_, rfl⟩
            obtain ⟨w5, hw5⟩ : ∃ w5, w5 = (w4.setCell ⟨go, k.toNat * 2, none⟩ (.bool true)).setCell ⟨go, k.toNat * 2 + 1, none⟩ (.int .i64 (gs % 1000003)) := ⟨_, rfl⟩
            obtain ⟨w6, hw6⟩ : ∃ w6, w6 = (w5.setCell ⟨w.heap.size, 0, none⟩ (.bool true)).setCell ⟨w.heap.size, 1, none⟩ (.int .i64 (gs % 1000003)) := ⟨_, rfl⟩
            obtain ⟨q1, q2⟩ := HW'.out.end5 HW1.out HK1.out k0 k1 (b6 := w.heap.size) (b7 := w.heap.size + 1) (Nat.le_refl _) (Nat.le_succ _) (.int .i64 (gs % 1000003)) (.bool true) (.int .i64 (gs % 1000003)) ⟨true, gs % 1000003⟩ hw4 hw5 hw6
            have H64 : w4.heap[w.heap.size]? = some (.cells #[.bool false, .int .i64 0] 51 (0, 0)) := hw4 ▸ (Below.heap_setCell _ _ _ _ (by show w.heap.size ≠ w.heap.size + 1; omega)).trans H6.out
            have H65 : w5.heap[w.heap.size]? = some (.cells #[.bool false, .int .i64 0] 51 (0, 0)) := hw5 ▸ (Below.heap_setCell _ _ _ _ (by show w.heap.size ≠ go; omega)).trans ((Below.heap_setCell _ _ _ _ (by show w.heap.size ≠ go; omega)).trans H64)
            have H66 : w6.heap[w.heap.size]? = some (.cells #[.bool true, .int .i64 (gs % 1000003)] 51 (0, 0)) := hw6 ▸ set2_here H65
            have HP5 : OfPost l (some ad) c bd bo bl bf gd go capd capo base P D k w (.returned (.agg #[.bool true, .int .i64 (gs % 1000003)])) w6 := ⟨⟨D1, F1.set k.toNat ⟨true, gs % 1000003⟩, by rw [HC.out], HI1.out.endYes k0 k1 HC.out.symm (fun hp => by have := (HI'.out.going k k0 k1 hp).1; rw [hd] at this; cases this), (HI1.out.going k k0 k1 (.inr rfl)).1, by have := HN1.out.1; omega, HN1.out.2, q1, q2, hw6 ▸ hw5 ▸ hw4 ▸ HS1.out.trans ⟨rfl, rfl, rfl⟩⟩⟩
            rw [← hw4, ← hw5, ← hw6]
            exact bodyPost_ret (v := .agg #[.bool true, .int .i64 (gs % 1000003)]) (res34 rfl H66) rfl HP5
end Go.Proofs.Ytgahkloigbhgdaa.PR
