/- An argument of recipes, or of numbers, opened, with what its weight allows. Conditions: none. -/
import Derived.Test.YtgahkloigbhgdaaRy
import Derived.SizedLaws
namespace Go.Proofs.Ytgahkloigbhgdaa.PR
open Go.RowKit Go.Proofs.YtgahkloigbhgdaaW.PrintWords Go.Proofs.YtgahkloigbhgdaaW.PrintLast Go.Proofs.YtgahkloigbhgdaaW.PrintMore
set_option linter.unusedVariables false
set_option linter.unusedSimpArgs false
section
variable {H : Type} {enc : TypeId × Value → H} {w : World} {base : Nat} {spare : Nat → Bool} {held : Bool}
theorem weightsAll_mem {P : Program} {e : TypeId} : ∀ {l : List (DataW H)} {d : DataW H}, d ∈ l → ∀ n ∈ d.weights P e, n ∈ DataW.weightsAll P e l
  | d' :: r, d, hd, n, hn => by
    simp only [DataW.weightsAll, List.mem_append]
    rcases List.mem_cons.1 hd with rfl | h
    · exact Or.inl hn
    · exact Or.inr (weightsAll_mem h n hn)
/-- Its weight is that of a machine. -/
def Light (t : TypeId) (d : DataW H) : Prop := ∀ n ∈ d.weights Try.prog t, n ≤ reachBytes
theorem open_kdS {α : Type} (d : Kd α) (ok : α → Prop) {t e : TypeId} {fuel : Nat} {A : Option Addr} {len cap : Nat} {x : DataW H × List MemPlace} (ht : Try.prog.underlying t = some (.slice e)) (hz : Try.prog.cellsOf e = d.sz)
    (each : ∀ (n : Nat) (cs : List Value) (y : DataW H × List MemPlace), DataW.trod enc Try.prog w base spare held n e cs = some y → Light e y.1 → ∃ z, ok z ∧ d.K w z cs)
    (h : DataW.trod enc Try.prog w base spare held fuel t [.slice A len cap] = some x) (hL : Light t x.1) : ∃ l : List α, l.length = len ∧ len ≤ cap ∧ len ≤ maxLen ∧ (∀ z ∈ l, ok z) ∧ d.C w A len l ∧ len * Try.prog.bytesOf e ≤ reachBytes := by
  rcases DataW.trod_slice ht h with ⟨hcs, _⟩ | ⟨a, len', cap', elems, rest, n, _, hcs, hx, _, hl, hm, hlen, hel, _⟩
  · simp only [List.cons.injEq, Value.slice.injEq, and_true] at hcs
    obtain ⟨rfl, rfl, rfl⟩ := hcs
    exact ⟨[], rfl, Nat.le_refl _, Nat.zero_le maxLen, fun z hz => (List.not_mem_nil hz).elim, ⟨rfl, by omega, fun h => by omega⟩, by simp⟩
  · simp only [List.cons.injEq, Value.slice.injEq, and_true] at hcs
    obtain ⟨rfl, rfl, rfl⟩ := hcs
    have hin : ∀ y ∈ elems, Light e y.1 := fun y hy m hm => hL m (by
      rw [hx]
      simp only [DataW.weights, ht, List.mem_cons, List.mem_append]
      exact .inr (.inl (weightsAll_mem (List.mem_map_of_mem hy) m hm)))
    have one : ∀ i, i < len → ∃ z cs, cs.length = d.sz ∧ ok z ∧ d.K w z cs ∧ ∀ j u, cs[j]? = some u → w.cell? (a.add (i * d.sz + j)) = some u := by
      intro i hi
      have hE := hel i hi
      rw [List.getElem?_eq_getElem (by omega), Option.bind_eq_some_iff] at hE
      obtain ⟨cs, hcs, hy⟩ := hE
      obtain ⟨_, hn, hc⟩ := World.cells?_some hcs
      obtain ⟨z, ho, hK⟩ := each _ _ _ hy (hin _ (List.getElem_mem _))
      refine ⟨z, cs, d.K_len hK, ho, hK, fun j u hu => ?_⟩
      have hj : j < cs.length := (List.getElem?_eq_some_iff.1 hu).1
      have := hc j (by omega)
      rw [hu, hz] at this
      rw [← this, Addr.add_add]
    have all : ∀ m, m ≤ len → ∃ l : List α, l.length = m ∧ (∀ z ∈ l, ok z) ∧ ∀ j p, l[j]? = some p → ∃ c, c.length = d.sz ∧ d.K w p c ∧ ∀ i u, c[i]? = some u → w.cell? (a.add (j * d.sz + i)) = some u := by
      intro m
      induction m with
      | zero => intro _; exact ⟨[], rfl, fun z hz => (List.not_mem_nil hz).elim, fun j p hp => by simp at hp⟩
      | succ m ih =>
        intro hm
        obtain ⟨l, h1, h2, h3⟩ := ih (by omega)
        obtain ⟨z, cs, c1, c2, c3, c4⟩ := one m (by omega)
        refine ⟨l ++ [z], by simp [h1], fun y hy => by
          simp only [List.mem_append, List.mem_singleton] at hy
          rcases hy with hy | rfl
          · exact h2 y hy
          · exact c2, fun j p hp => ?_⟩
        by_cases hj : j < m
        · rw [List.getElem?_append_left (by omega)] at hp
          exact h3 j p hp
        · rw [List.getElem?_append_right (by omega)] at hp
          have : j = m := by
            have := (List.getElem?_eq_some_iff.1 hp).1
            simp at this; omega
          subst this
          simp [h1] at hp
          subst hp
          exact ⟨cs, c1, c3, c4⟩
    obtain ⟨l, h1, h2, h3⟩ := all len (Nat.le_refl _)
    refine ⟨l, h1, hl, by omega, h2, ⟨h1, small (by omega), fun _ => ⟨a, rfl, h3⟩⟩, ?_⟩
    have := hL ((elems.length + rest.length) * Try.prog.bytesOf e) (by rw [hx]; simp [DataW.weights, ht])
    exact Nat.le_trans (Nat.mul_le_mul_right _ (by omega)) this
theorem bytes3 : Try.prog.bytesOf 3 = 8 := by kernel_rfl
theorem bytes43 : Try.prog.bytesOf 43 = 56 := by kernel_rfl
theorem reach_eq : reachBytes = 140737488351232 := rfl
theorem open_numsS {fuel : Nat} {A : Option Addr} {len cap : Nat} {x : DataW H × List MemPlace} (h : DataW.trod enc Try.prog w base spare held fuel 26 [.slice A len cap] = some x) (hL : Light 26 x.1) :
    ∃ l : List Int, l.length = len ∧ len ≤ cap ∧ (Kd.int .i64).C w A len l ∧ 8 * len ≤ 140737488351232 := by
  obtain ⟨l, h1, h2, _, _, h5, h6⟩ := open_kdS (Kd.int .i64) (fun _ => True) Try.underlying26 (by kernel_rfl) (fun n cs y hy _ => by obtain ⟨z, _, hz⟩ := one_int hy; exact ⟨z, trivial, hz⟩) h hL
  rw [bytes3, reach_eq] at h6
  exact ⟨l, h1, h2, h5, by omega⟩
theorem one_recipeS {n : Nat} {cs : List Value} {y : DataW H × List MemPlace} (h : DataW.trod enc Try.prog w base spare held n 43 cs = some y) (hL : Light 43 y.1) : ∃ z : S43, 8 * z.f0.length ≤ 140737488351232 ∧ k43.K w z cs := by
  obtain ⟨z, _, hK⟩ := one_recipe h
  refine ⟨z, ?_, hK⟩
  obtain ⟨A0, c0, rfl, _, _⟩ := k43_open hK
  obtain ⟨xs, m, hy, hd, hl, hx, hf⟩ := DataW.trod_struct Try.underlying43 h
  have s26 : Try.prog.cellsOf 26 = 1 := by kernel_rfl
  have e0 : DataW.trod enc Try.prog w base spare held m 26 [.slice A0 z.f0.length c0] = xs[0]? := by
    have q := hf 0 { name := "Needs", type := 26, offset := 0, embedded := false, tag := "", pkgPath := "", byteOffset := 0 } rfl
    dsimp only at q
    rw [s26] at q
    exact q
  have hx5 : xs.length = 5 := hx
  rw [List.getElem?_eq_getElem (by omega)] at e0
  have hL0 : Light 26 (xs[0]).1 := fun k hk => hL k (by
    rw [hd]
    simp only [DataW.weights, Try.underlying43]
    exact DataW.weights_mem_each (j := 0) (t := 26) (d := (xs[0]).1) rfl (by rw [List.getElem?_map, List.getElem?_eq_getElem (by omega)]; rfl) k hk)
  obtain ⟨_, _, _, _, h8⟩ := open_numsS e0 hL0
  exact h8
theorem open_recipesS {fuel : Nat} {A : Option Addr} {len cap : Nat} {x : DataW H × List MemPlace} (h : DataW.trod enc Try.prog w base spare held fuel 25 [.slice A len cap] = some x) (hL : Light 25 x.1) :
    ∃ l : List S43, l.length = len ∧ len ≤ cap ∧ (∀ z ∈ l, 8 * z.f0.length ≤ 140737488351232) ∧ k43.C w A len l ∧ 56 * len ≤ 140737488351232 := by
  obtain ⟨l, h1, h2, _, h4, h5, h6⟩ := open_kdS k43 (fun z => 8 * z.f0.length ≤ 140737488351232) Try.underlying25 (by kernel_rfl) (fun n cs y hy hl => one_recipeS hy hl) h hL
  rw [bytes43, reach_eq] at h6
  exact ⟨l, h1, h2, h4, h5, by omega⟩
theorem rd_T43_mem {l : List S43} {k : Int} (h0 : 0 ≤ k) (h1 : k < (l.length : Int)) : rd_T43 l k ∈ l := by
  have : k.toNat < l.length := by omega
  simp [rd_T43, List.getD_eq_getElem?_getD, List.getElem?_eq_getElem this]
theorem light_of {ts : List TypeId} {ds : List (DataW H)} (h : (DataW.weightsEach Try.prog ts ds).all (· ≤ reachBytes) = true) {j : Nat} {t : TypeId} {d : DataW H} (ht : ts[j]? = some t) (hd : ds[j]? = some d) : Light t d :=
  fun n hn => of_decide_eq_true (List.all_eq_true.1 h _ (DataW.weights_mem_each ht hd n hn))
end
end Go.Proofs.Ytgahkloigbhgdaa.PR
