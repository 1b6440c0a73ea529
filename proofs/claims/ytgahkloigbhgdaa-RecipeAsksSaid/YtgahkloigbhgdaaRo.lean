/- The order in which keys are told (recipe.Order), in plain words, and what the closure in it does. Conditions: the recipes are right. -/
import Derived.Test.YtgahkloigbhgdaaRc
namespace Go.Proofs.Ytgahkloigbhgdaa.PR
open Go.RowKit Go.Proofs.YtgahkloigbhgdaaW.PrintWords Go.Proofs.YtgahkloigbhgdaaW.PrintLast Go.Proofs.YtgahkloigbhgdaaW.PrintMore
set_option linter.unusedVariables false
set_option linter.unusedSimpArgs false

abbrev St := List Bool × List Int
/-- Needs are asked for, up to the first that can't be built. -/
def goL (f : Int → St → St) (c : Int → Bool) : List Int → St → St
  | [], s => s
  | m :: ms, s => if c m then goL f c ms (f m s) else f m s
def askF (l : List S43) (c : Int → Bool) : Nat → Int → St → St
  | 0, _, s => s
  | n + 1, k, s => if rdOf false s.1 k = true then s else
      let s' := goL (askF l c n) c (nds l k) (s.1.set k.toNat true, s.2)
      if c k then (s'.1, s'.2 ++ [k]) else s'

/-- What asking keeps. -/
structure AI (n p : Nat) (s : St) : Prop where
  len : s.1.length = n
  few : s.2.length + unm s.1 + p ≤ n
theorem askF_keeps {l : List S43} {c : Int → Bool} (hv : Vld l) : ∀ (N : Nat) (k : Int) (s : St) (p : Nat), 0 ≤ k → k < (l.length : Int) → AI l.length p s → AI l.length p (askF l c N k s) ∧ unm (askF l c N k s).1 ≤ unm s.1 := by
  intro N
  induction N with
  | zero => intro k s p _ _ h; exact ⟨h, Nat.le_refl _⟩
  | succ N ih =>
    intro k s p k0 k1 h
    have gol : ∀ (ms : List Int) (s : St) (p : Nat), (∀ m ∈ ms, 0 ≤ m ∧ m < (l.length : Int)) → AI l.length p s → AI l.length p (goL (askF l c N) c ms s) ∧ unm (goL (askF l c N) c ms s).1 ≤ unm s.1 := by
      intro ms
      induction ms with
      | nil => intro s p _ h; exact ⟨h, Nat.le_refl _⟩
      | cons m ms ihm =>
        intro s p hm h
        obtain ⟨a, b⟩ := ih m s p (hm m (by simp)).1 (hm m (by simp)).2 h
        simp only [goL]
        split
        · obtain ⟨a', b'⟩ := ihm _ p (fun x hx => hm x (by simp [hx])) a
          exact ⟨a', by omega⟩
        · exact ⟨a, b⟩
    simp only [askF]
    split
    · exact ⟨h, Nat.le_refl _⟩
    · rename_i hd
      simp only [Bool.not_eq_true] at hd
      have hu : unm (s.1.set k.toNat true) + 1 = unm s.1 := unm_set (by rw [h.len]; omega) (by have := hd; unfold rdOf at this; exact this)
      obtain ⟨a, b⟩ := gol (nds l k) (s.1.set k.toNat true, s.2) (p + 1) (fun m hm => hv.mem k0 k1 hm) ⟨by simp [h.len], by have := h.few; simp; omega⟩
      simp only at a b
      split
      · exact ⟨⟨a.len, by have := a.few; simp; omega⟩, by simp; omega⟩
      · exact ⟨⟨a.len, by have := a.few; omega⟩, by omega⟩
theorem goL_snoc {f : Int → St → St} {c : Int → Bool} : ∀ (ms : List Int) (m : Int) (s : St), (∀ x ∈ ms, c x = true) → goL f c (ms ++ [m]) s = f m (goL f c ms s) := by
  intro ms
  induction ms with
  | nil => intro m s _; simp [goL]
  | cons x ms ih => intro m s h; simp only [List.cons_append, goL]; rw [if_pos (h x (by simp)), if_pos (h x (by simp))]; exact ih m _ (fun y hy => h y (by simp [hy]))
/-- Where one need can't be built, those behind it are not asked for. -/
theorem goL_stop {f : Int → St → St} {c : Int → Bool} : ∀ (ms rest : List Int) (m : Int) (s : St), c m = false → (∀ x ∈ ms, c x = true) → goL f c (ms ++ m :: rest) s = f m (goL f c ms s) := by
  intro ms
  induction ms with
  | nil => intro rest m s hm _; simp [goL, hm]
  | cons x ms ih => intro rest m s hm h; simp only [List.cons_append, goL]; rw [if_pos (h x (by simp)), if_pos (h x (by simp))]; exact ih rest m _ hm (fun y hy => h y (by simp [hy]))

theorem grown_set (w : World) (b j : Nat) (u : Value) : w.grownBy (w.setCell ⟨b, j, none⟩ u) (some b) :=
  ⟨rfl, rfl, rfl, by simp [World.setCell], fun i hi hne => Below.heap_setCell _ _ _ _ (fun e => hne (by rw [e]))⟩
/-- The closure's variables in memory. -/
structure OW (l : List S43) (w0 : World) (A : Option Addr) (c bb bl ba bf bv gd gf capd capf : Nat) (w : World) (s : St) (v : Value) : Prop where
  hb : w.heap[bb]? = some (.cells #[.slice (some ⟨gd, 0, none⟩) l.length capd] 41 (0, 0))
  hl : w.heap[bl]? = some (.cells #[.slice A l.length c] 25 (0, 0))
  ha : w.heap[ba]? = some (.cells #[.func (.func 29) #[] #[ptr bb, ptr bl, ptr ba, ptr bf, ptr bv]] 54 (0, 0))
  hf : w.heap[bf]? = some (.cells #[.slice (some ⟨gf, 0, none⟩) l.length capf] 52 (0, 0))
  hv : w.heap[bv]? = some (.cells #[v] 26 (0, 0))
  rB : Kd.R Kd.bool 4 w w0.heap.size (fun _ => True) (.slice (some ⟨gd, 0, none⟩) l.length capd) s.1
  rO : Kd.R (Kd.int .i64) 3 w w0.heap.size (fun _ => True) v s.2
  rF : Kd.R k51 51 w w0.heap.size (fun _ => True) (.slice (some ⟨gf, 0, none⟩) l.length capf) (fatesOf l)
  rL : Kd.C k43 w0 A l.length l
  low : Below w0.heap.size w0 w
  bv0 : w0.heap.size ≤ bv

section
variable {l : List S43} {w0 : World} {A : Option Addr} {c bb bl ba bf bv gd gf capd capf : Nat} {w w1 : World} {s : St} {v v1 : Value}
/-- A key is begun. -/
theorem OW.begin (h : OW l w0 A c bb bl ba bf bv gd gf capd capf w s v) (k : Int) (e : w1 = w.setCell ⟨gd, k.toNat, none⟩ (.bool true)) : OW l w0 A c bb bl ba bf bv gd gf capd capf w1 (s.1.set k.toNat true, s.2) v := by
  obtain ⟨cd, hgd⟩ := Kd.R_typed h.rB gd rfl
  have hk : ∀ b, b ≠ gd → w1.heap[b]? = w.heap[b]? := fun b hb => by rw [e]; exact Below.heap_setCell _ _ _ _ hb
  have r1 : Kd.R Kd.bool 4 w1 w0.heap.size (fun _ => True) (.slice (some ⟨gd, 0, none⟩) l.length capd) (s.1.set k.toNat true) := e ▸ Kd.R_putn (h1 := fun _ => rfl) h.rB k true
  have hg : w.grownBy w1 (some gd) := e ▸ grown_set w gd k.toNat _
  exact ⟨(hk _ (typ_ne h.hb hgd (by decide))).trans h.hb, (hk _ (typ_ne h.hl hgd (by decide))).trans h.hl, (hk _ (typ_ne h.ha hgd (by decide))).trans h.ha, (hk _ (typ_ne h.hf hgd (by decide))).trans h.hf, (hk _ (typ_ne h.hv hgd (by decide))).trans h.hv,
    r1, Kd.R_grown2 h.rO rfl hg (fun k hk => by injection hk with hk; subst hk; exact Kd.R_ne h.rO hgd (by decide)), Kd.R_grown2 h.rF rfl hg (fun k hk => by injection hk with hk; subst hk; exact Kd.R_ne h.rF hgd (by decide)), h.rL,
    e ▸ below_set h.low (Kd.R_base h.rB gd rfl), h.bv0⟩
/-- A key is told. -/
theorem OW.tell {W1 : World} {O : List Int} (h : OW l w0 A c bb bl ba bf bv gd gf capd capf w s v) (hg : w.grownBy W1 v.ownBlock) (hr : Kd.R (Kd.int .i64) 3 W1 w0.heap.size (fun _ => True) v1 O) (hb : Below w0.heap.size w0 W1)
    (hat : v1.ownBlock = v.ownBlock ∨ ∃ b, v1.ownBlock = some b ∧ w.heap.size ≤ b) (e : w1 = W1.setCell ⟨bv, 0, none⟩ v1) : OW l w0 A c bb bl ba bf bv gd gf capd capf w1 (s.1, O) v1 := by
  have keep : ∀ {b t : Nat} {cs : Array Value}, w.heap[b]? = some (.cells cs t (0, 0)) → t ≠ 3 → W1.heap[b]? = some (.cells cs t (0, 0)) := fun {b t cs} hb ht => by
    have hlt := blk_lt hb
    exact (hg.block b hlt (Kd.R_ne h.rO hb (by omega))).trans hb
  have keep2 : ∀ {b t : Nat} {cs : Array Value}, w.heap[b]? = some (.cells cs t (0, 0)) → t ≠ 3 → t ≠ 26 → w1.heap[b]? = some (.cells cs t (0, 0)) := fun {b t cs} hb ht ht' => by
    rw [e]; exact (Below.heap_setCell _ _ _ _ (typ_ne hb h.hv ht')).trans (keep hb ht)
  have hbv := keep h.hv (by decide)
  have hg1 : W1.grownBy w1 (some bv) := e ▸ grown_set W1 bv 0 _
  have mv : ∀ {α : Type} {d : Kd α} {e' : Nat} {u : Value} {xs : List α}, d.E = [] → e' ≠ 3 → e' ≠ 26 → Kd.R d e' w w0.heap.size (fun _ => True) u xs → Kd.R d e' w1 w0.heap.size (fun _ => True) u xs := fun {α d e' u xs} hE h3 h26 hu => by
    have a2 := Kd.R_grown2 hu hE hg (fun k hk => by
      obtain ⟨cs, hc⟩ := Kd.R_typed h.rO k hk
      exact Kd.R_ne hu hc h3)
    exact Kd.R_grown2 a2 hE hg1 (fun k hk => by injection hk with hk; subst hk; exact Kd.R_ne hu h.hv h26)
  exact ⟨keep2 h.hb (by decide) (by decide), keep2 h.hl (by decide) (by decide), keep2 h.ha (by decide) (by decide), keep2 h.hf (by decide) (by decide), e ▸ setCell_here hbv,
    mv rfl (by decide) (by decide) h.rB, Kd.R_grown2 hr rfl hg1 (fun k hk => by injection hk with hk; subst hk; exact Kd.R_ne hr hbv (by decide)), mv rfl (by decide) (by decide) h.rF, h.rL, e ▸ below_set hb h.bv0, h.bv0⟩
end
end Go.Proofs.Ytgahkloigbhgdaa.PR
