/- An argument of events, opened: the rows that the walk reads. Conditions: none. -/
import Derived.Test.YtakhipedjccpkaaDoorHl
import Derived.WalkKit
import Derived.ProofKit
import Derived.OpenShut
import Derived.ChangeOld
import Derived.Below
import Derived.SizedLaws
namespace Go.Proofs.YtakhipedjccpkaaDoor.PH
open Go.RowKit Go.Proofs.YtakhipedjccpkaaDoorW.PrintWords Go.Proofs.YtakhipedjccpkaaDoorW.PrintLast Go.Proofs.YtakhipedjccpkaaDoorW.PrintMore
set_option linter.unusedVariables false
set_option linter.unusedSimpArgs false
section
variable {H : Type} {enc : TypeId × Value → H} {w : World} {base : Nat} {spare : Nat → Bool} {held : Bool}

theorem small {n : Nat} (h : n ≤ maxLen) : n ≤ 9223372036854775807 := by
  unfold maxLen at h; omega
/-- A slice, opened: each element's cells say something. -/
theorem open_kd {α : Type} (d : Kd α) (ok : α → Prop) {t e : TypeId} {fuel : Nat} {A : Option Addr} {len cap : Nat} {x : DataW H × List MemPlace} (ht : Tryd.prog.underlying t = some (.slice e)) (hz : Tryd.prog.cellsOf e = d.sz)
    (each : ∀ (n : Nat) (cs : List Value) (y : DataW H × List MemPlace), DataW.trod enc Tryd.prog w base spare held n e cs = some y → ∃ z, ok z ∧ d.K w z cs)
    (h : DataW.trod enc Tryd.prog w base spare held fuel t [.slice A len cap] = some x) : ∃ l : List α, l.length = len ∧ len ≤ cap ∧ len ≤ maxLen ∧ (∀ z ∈ l, ok z) ∧ d.C w A len l := by
  rcases DataW.trod_slice ht h with ⟨hcs, _⟩ | ⟨a, len', cap', elems, rest, n, _, hcs, _, _, hl, hm, hlen, hel, _⟩
  · simp only [List.cons.injEq, Value.slice.injEq, and_true] at hcs
    obtain ⟨rfl, rfl, rfl⟩ := hcs
    exact ⟨[], rfl, Nat.le_refl _, Nat.zero_le maxLen, fun z hz => (List.not_mem_nil hz).elim, ⟨rfl, by omega, fun h => by omega⟩⟩
  · simp only [List.cons.injEq, Value.slice.injEq, and_true] at hcs
    obtain ⟨rfl, rfl, rfl⟩ := hcs
    have one : ∀ i, i < len → ∃ z cs, cs.length = d.sz ∧ ok z ∧ d.K w z cs ∧ ∀ j u, cs[j]? = some u → w.cell? (a.add (i * d.sz + j)) = some u := by
      intro i hi
      have hE := hel i hi
      rw [List.getElem?_eq_getElem (by omega), Option.bind_eq_some_iff] at hE
      obtain ⟨cs, hcs, hy⟩ := hE
      obtain ⟨_, hn, hc⟩ := World.cells?_some hcs
      obtain ⟨z, ho, hK⟩ := each _ _ _ hy
      refine ⟨z, cs, d.K_len hK, ho, hK, fun j u hu => ?_⟩
      have hj : j < cs.length := (List.getElem?_eq_some_iff.1 hu).1
      have := hc j (by omega)
      rw [hu, hz] at this
      rw [← this, Addr.add_add]
    have all : ∀ m, m ≤ len → ∃ l : List α, l.length = m ∧ (∀ z ∈ l, ok z) ∧ ∀ j p, l[j]? = some p → ∃ c, c.length = d.sz ∧ d.K w p c ∧ ∀ i u, c[i]? = some u → w.cell? (a.add (j * d.sz + i)) = some u := by
      intro m
      induction m with
      | zero => intro _; exact ⟨[], rfl, fun z hz => (List.not_mem_nil hz).elim, fun j p hp => by simp at hp⟩
      | succ m ih =>
        intro hm
        obtain ⟨l, h1, h2, h3⟩ := ih (by omega)
        obtain ⟨z, cs, c1, c2, c3, c4⟩ := one m (by omega)
        refine ⟨l ++ [z], by simp [h1], fun y hy => by
          simp only [List.mem_append, List.mem_singleton] at hy
          rcases hy with hy | rfl
          · exact h2 y hy
          · exact c2, fun j p hp => ?_⟩
        by_cases hj : j < m
        · rw [List.getElem?_append_left (by omega)] at hp
          exact h3 j p hp
        · rw [List.getElem?_append_right (by omega)] at hp
          have : j = m := by
            have := (List.getElem?_eq_some_iff.1 hp).1
            simp at this; omega
          subst this
          simp [h1] at hp
          subst hp
          exact ⟨cs, c1, c3, c4⟩
    obtain ⟨l, h1, h2, h3⟩ := all len (Nat.le_refl _)
    exact ⟨l, h1, hl, by omega, h2, ⟨h1, small (by omega), fun _ => ⟨a, rfl, h3⟩⟩⟩

theorem one_int {n : Nat} {cs : List Value} {y : DataW H × List MemPlace} (h : DataW.trod enc Tryd.prog w base spare held n 3 cs = some y) : ∃ z, I64 z ∧ cs = [.int .i64 z] := by
  obtain ⟨z, rfl, _, hw⟩ := DataW.trod_int Tryd.underlying3 h
  exact ⟨z, bounds_i64 hw, rfl⟩
theorem one_code {n : Nat} {cs : List Value} {y : DataW H × List MemPlace} (h : DataW.trod enc Tryd.prog w base spare held n 26 cs = some y) : ∃ z, I64 z ∧ cs = [.int .i64 z] := by
  obtain ⟨z, rfl, _, hw⟩ := DataW.trod_int Tryd.underlying26 h
  exact ⟨z, bounds_i64 hw, rfl⟩
set_option maxRecDepth 100000 in
theorem one_answer {n : Nat} {cs : List Value} {y : DataW H × List MemPlace} (h : DataW.trod enc Tryd.prog w base spare held n 31 cs = some y) : ∃ a b, cs = [.int .i64 a, .int .i64 b] := by
  obtain ⟨xs, m, rfl, _, hl, hx, hf⟩ := DataW.trod_struct Tryd.underlying31 h
  have hl2 : cs.length = 2 := hl.trans (by kernel_rfl)
  have hx2 : xs.length = 2 := hx
  have s26 : Tryd.prog.cellsOf 26 = 1 := by kernel_rfl
  have s3 : Tryd.prog.cellsOf 3 = 1 := by kernel_rfl
  match cs, hl2 with
  | [c0, c1], _ =>
  have e0 : DataW.trod enc Tryd.prog w base spare held m 26 [c0] = xs[0]? := by
    have q := hf 0 { name := "Code", type := 26, offset := 0, embedded := false, tag := "", pkgPath := "", byteOffset := 0 } rfl
    dsimp only at q
    rw [s26] at q
    exact q
  have e1 : DataW.trod enc Tryd.prog w base spare held m 3 [c1] = xs[1]? := by
    have q := hf 1 { name := "Value", type := 3, offset := 1, embedded := false, tag := "", pkgPath := "", byteOffset := 8 } rfl
    dsimp only at q
    rw [s3] at q
    exact q
  rw [List.getElem?_eq_getElem (by omega)] at e0 e1
  obtain ⟨n0, w0, q0⟩ := one_code e0
  obtain ⟨n1, w1, q1⟩ := one_int e1
  exact ⟨n0, n1, by simp at q0 q1; rw [q0, q1]⟩
/-- An event's numbers. -/
structure Ok33 (x : S33) : Prop where
  n2 : I64 x.f2
  n3 : I64 x.f3
  n4 : I64 x.f4
  n5 : I64 x.f5
set_option maxRecDepth 100000 in
theorem one_event {n : Nat} {cs : List Value} {y : DataW H × List MemPlace} (h : DataW.trod enc Tryd.prog w base spare held n 33 cs = some y) : ∃ z, Ok33 z ∧ k33.K w z cs := by
  obtain ⟨xs, m, rfl, _, hl, hx, hf⟩ := DataW.trod_struct Tryd.underlying33 h
  have hl8 : cs.length = 8 := hl.trans (by kernel_rfl)
  have hx7 : xs.length = 7 := hx
  have s31 : Tryd.prog.cellsOf 31 = 2 := by kernel_rfl
  have s3 : Tryd.prog.cellsOf 3 = 1 := by kernel_rfl
  match cs, hl8 with
  | [c0, c1, c2, c3, c4, c5, c6, c7], _ =>
  have e0 : DataW.trod enc Tryd.prog w base spare held m 3 [c0] = xs[0]? := by
    have q := hf 0 { name := "Thread", type := 3, offset := 0, embedded := false, tag := "", pkgPath := "", byteOffset := 0 } rfl
    dsimp only at q
    rw [s3] at q
    exact q
  have e1 : DataW.trod enc Tryd.prog w base spare held m 3 [c1] = xs[1]? := by
    have q := hf 1 { name := "Op", type := 3, offset := 1, embedded := false, tag := "", pkgPath := "", byteOffset := 8 } rfl
    dsimp only at q
    rw [s3] at q
    exact q
  have e2 : DataW.trod enc Tryd.prog w base spare held m 3 [c2] = xs[2]? := by
    have q := hf 2 { name := "A", type := 3, offset := 2, embedded := false, tag := "", pkgPath := "", byteOffset := 16 } rfl
    dsimp only at q
    rw [s3] at q
    exact q
  have e3 : DataW.trod enc Tryd.prog w base spare held m 3 [c3] = xs[3]? := by
    have q := hf 3 { name := "B", type := 3, offset := 3, embedded := false, tag := "", pkgPath := "", byteOffset := 24 } rfl
    dsimp only at q
    rw [s3] at q
    exact q
  have e4 : DataW.trod enc Tryd.prog w base spare held m 3 [c4] = xs[4]? := by
    have q := hf 4 { name := "Begin", type := 3, offset := 4, embedded := false, tag := "", pkgPath := "", byteOffset := 32 } rfl
    dsimp only at q
    rw [s3] at q
    exact q
  have e5 : DataW.trod enc Tryd.prog w base spare held m 3 [c5] = xs[5]? := by
    have q := hf 5 { name := "End", type := 3, offset := 5, embedded := false, tag := "", pkgPath := "", byteOffset := 40 } rfl
    dsimp only at q
    rw [s3] at q
    exact q
  have e6 : DataW.trod enc Tryd.prog w base spare held m 31 [c6, c7] = xs[6]? := by
    have q := hf 6 { name := "Answer", type := 31, offset := 6, embedded := false, tag := "", pkgPath := "", byteOffset := 48 } rfl
    dsimp only at q
    rw [s31] at q
    exact q
  rw [List.getElem?_eq_getElem (by omega)] at e0 e1 e2 e3 e4 e5 e6
  obtain ⟨n0, w0, q0⟩ := one_int e0
  obtain ⟨n1, w1, q1⟩ := one_int e1
  obtain ⟨n2, w2, q2⟩ := one_int e2
  obtain ⟨n3, w3, q3⟩ := one_int e3
  obtain ⟨n4, w4, q4⟩ := one_int e4
  obtain ⟨n5, w5, q5⟩ := one_int e5
  obtain ⟨n6, n7, q6⟩ := one_answer e6
  refine ⟨⟨n0, n1, n2, n3, n4, n5, ⟨n6, n7⟩⟩, ⟨w2, w3, w4, w5⟩, ?_⟩
  simp only [List.cons.injEq, and_true] at q0 q1 q2 q3 q4 q5 q6
  obtain ⟨q6, q7⟩ := q6
  subst q0 q1 q2 q3 q4 q5 q6 q7
  exact k33_mk w ⟨n0, n1, n2, n3, n4, n5, ⟨n6, n7⟩⟩
theorem open_events {fuel : Nat} {A : Option Addr} {len cap : Nat} {x : DataW H × List MemPlace} (h : DataW.trod enc Tryd.prog w base spare held fuel 22 [.slice A len cap] = some x) :
    ∃ l : List S33, l.length = len ∧ len ≤ cap ∧ len ≤ maxLen ∧ (∀ z ∈ l, Ok33 z) ∧ k33.C w A len l :=
  open_kd k33 Ok33 Tryd.underlying22 (by kernel_rfl) (fun n cs y hy => one_event hy) h
end
end Go.Proofs.YtakhipedjccpkaaDoor.PH
