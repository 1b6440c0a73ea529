/- strings.Builder's writing, and history.text: what their calls come to. Conditions: the numbers are those of an int; at most 5000 of them; the library's table stands. -/
import Derived.Test.YtakhipedjccpkaaDoorPHx0
import Derived.Test.YtakhipedjccpkaaDoorSh
import Derived.Lib.Builder
import Derived.Lib.AppendStr
import Derived.Lib.ItoaLen
namespace Go.Proofs.YtakhipedjccpkaaDoor.PH
open Go.RowKit Go.Proofs.YtakhipedjccpkaaDoorW.PrintWords Go.Proofs.YtakhipedjccpkaaDoorW.PrintLast Go.Proofs.YtakhipedjccpkaaDoorW.PrintMore
set_option linter.unusedVariables false
set_option linter.unusedSimpArgs false

theorem size93 : (Tryd.prog.info? 93).map (·.size) = some 2 := by kernel_rfl
theorem lies93 : liesAt Tryd.prog Tryd.prog.depth 93 (2 / Tryd.prog.cellsOf 93) 0 93 1 = true := by kernel_rfl
set_option maxHeartbeats 1000000 in
set_option maxRecDepth 100000 in
theorem copyCheck_used (b : Nat) (w : World) (h0 : w.cell? ⟨b, 0, none⟩ = some (.pointer (some ⟨b, 0, none⟩))) :
    Calls Tryd.prog 56 #[.pointer (some ⟨b, 0, none⟩)] w fun e w' => e = .returned (.tuple #[]) ∧ w' = w := by
  obtain ⟨j, hj, _⟩ := Option.map_eq_some_iff.1 size93
  go_enter Tryd.func56, Tryd.ntmps56
  go_wp2
  rw [Lib.run_neq_ptr_same w _ Tryd.underlying90 hj]
  go_wp2
  go_end0
  exact ⟨rfl, rfl⟩
set_option maxHeartbeats 1000000 in
set_option maxRecDepth 100000 in
theorem copyCheck_fresh (b : Nat) (w : World) (h0 : w.cell? ⟨b, 0, none⟩ = some (.pointer none)) (hsh : w.shape? b = some (93, 2)) (hfz : w.frozen? ⟨b, 0, none⟩ = false) :
    Calls Tryd.prog 56 #[.pointer (some ⟨b, 0, none⟩)] w fun e w' => e = .returned (.tuple #[]) ∧ w' = w.setCell ⟨b, 0, none⟩ (.pointer (some ⟨b, 0, none⟩)) := by
  obtain ⟨j, hj, hjs⟩ := Option.map_eq_some_iff.1 size93
  go_enter Tryd.func56, Tryd.ntmps56
  go_wp2
  rw [Lib.run_to_unsafe w ⟨b, 0, none⟩ Tryd.underlying90 Tryd.underlying109 hj (by rw [hjs]; decide) hsh (Nat.zero_lt_succ 1)]
  simp only [Result.andThen]
  rw [Oper.upon_value]
  go_wp2
  rw [run_callFunc_extern Tryd.func58 (by kernel_rfl) (by kernel_rfl) (by kernel_rfl) (e := Extern.AbiNoEscape.same) (by kernel_rfl)]
  rw [Lib.run_noEscape]
  simp only [Result.andThen]
  rw [Oper.upon_value]
  go_wp2
  rw [Lib.run_from_unsafe w ⟨b, 0, none⟩ Tryd.underlying109 Tryd.underlying90 hj hsh lies93]
  simp only [Result.andThen]
  rw [Oper.upon_value]
  go_wp2
  go_end0
  exact ⟨rfl, rfl⟩
theorem copyCheck_calls (B b : Nat) (bs : List Value) (w : World) (h : Lib.IsBuilder 93 5 B b bs w) :
    Calls Tryd.prog 56 #[.pointer (some ⟨b, 0, none⟩)] w fun e w' => e = .returned (.tuple #[]) ∧ Lib.BuilderAt 93 5 B b (.pointer (some ⟨b, 0, none⟩)) bs w' ∧ Below B w w' := by
  rcases h with h | h
  · refine (copyCheck_fresh b w h.cell0 h.shape h.frozen0).mono ?_
    rintro e w' ⟨rfl, rfl⟩
    exact ⟨rfl, h.used _, (Below.refl B w).setCell (p := ⟨b, 0, none⟩) h.1 _⟩
  · refine (copyCheck_used b w h.cell0).mono ?_
    rintro e w' ⟨rfl, rfl⟩
    exact ⟨rfl, h, Below.refl B _⟩
theorem info5 : (Tryd.prog.info? 5).map (fun i => (i.zero, i.size, i.bytes)) = some (some (.int .u8 0), 1, 1) := by kernel_rfl
theorem inf5 : ∃ i0, Tryd.prog.info? 5 = some i0 ∧ i0.zero = some (.int .u8 0) ∧ i0.size = 1 ∧ i0.bytes = 1 := by
  obtain ⟨i0, hi, h⟩ := Option.map_eq_some_iff.1 info5
  simp only [Prod.mk.injEq] at h
  exact ⟨i0, hi, h⟩
set_option maxHeartbeats 2000000 in
set_option maxRecDepth 100000 in
theorem writeString_calls (B b : Nat) (bs : List Value) (s : ByteArray) (w : World) (h : Lib.IsBuilder 93 5 B b bs w) (hlen : bs.length + s.size ≤ 140737488355328) (hBw : B ≤ w.heap.size) :
    Calls Tryd.prog 43 #[.pointer (some ⟨b, 0, none⟩), .string s] w fun e w' => e = .returned (.tuple #[.int .i64 s.size, .nilIface]) ∧ Lib.BuilderAt 93 5 B b (.pointer (some ⟨b, 0, none⟩)) (bs ++ Lib.strCells s) w' ∧ Below B w w' := by
  obtain ⟨i0, hi, hz0, hz1, hz2⟩ := inf5
  have HI := Aside0.mk hi
  clear hi
  go_enter Tryd.func43, Tryd.ntmps43
  go_wp2_with (go_at_call 56; refine (copyCheck_calls B b bs _ h).mono ?_)
  rintro e w1 ⟨rfl, h1, hb1⟩
  obtain ⟨hB, v, hbk, hown, hne⟩ := h1
  have c0 : w1.cell? ⟨b, 0, none⟩ = some (.pointer (some ⟨b, 0, none⟩)) := by rw [Lib.cell_of_heap hbk]; rfl
  have c1 : w1.cell? ⟨b, 1, none⟩ = some v := by rw [Lib.cell_of_heap hbk]; rfl
  have hs1 := hb1.size
  go_wp2_with (at_builtin; refine Lib.wpList_append_own_string _ rfl _ _ 91 9 rfl B 5 i0 Tryd.underlying91 Tryd.underlying9 HI.out hz0 hz1 hz2 _ _ _ rfl hown s rfl (by unfold maxLen; omega) (by omega) (by omega) ?_)
  intro v' w2 hown' hgrow _
  have hlt : b < w1.heap.size := blk_lt hbk
  have hb2 : w2.heap[b]? = some (.cells #[.pointer (some ⟨b, 0, none⟩), v] 93 (0, 0)) := by
    rw [hgrow.block b hlt (fun e => hne e.symm)]
    exact hbk
  have d0 : w2.cell? ⟨b, 0, none⟩ = some (.pointer (some ⟨b, 0, none⟩)) := by rw [Lib.cell_of_heap hb2]; rfl
  have d1 : w2.cell? ⟨b, 1, none⟩ = some v := by rw [Lib.cell_of_heap hb2]; rfl
  have f1 : w2.frozen? ⟨b, 1, none⟩ = false := Lib.frozen_of_heap hb2 1
  obtain ⟨ao, n', cap, rfl⟩ : ∃ ao n' cap, v' = .slice ao n' cap := by
    rcases hown'.2 with ⟨hv, _⟩ | ⟨g, cap, cur, hv, _⟩
    · exact ⟨_, _, _, hv⟩
    · exact ⟨_, _, _, hv⟩
  go_wp2
  go_ret2
  refine ⟨rfl, ?_, ?_⟩
  · exact Lib.BuilderAt.put (T := 93) (e := 5) hB hb2 (bs' := bs ++ Lib.strCells s) (by simpa [Lib.strCells_length] using hown') (by decide)
  · exact (hb1.grown hgrow (by omega) (fun k hk => (hown.lt k hk).1)).setCell (p := ⟨b, 1, none⟩) hB _
set_option maxHeartbeats 2000000 in
set_option maxRecDepth 100000 in
theorem writeByte_calls (B b : Nat) (bs : List Value) (c : Int) (w : World) (h : Lib.IsBuilder 93 5 B b bs w) (hlen : bs.length + 1 ≤ 140737488355328) (hBw : B ≤ w.heap.size) :
    Calls Tryd.prog 45 #[.pointer (some ⟨b, 0, none⟩), .int .u8 c] w fun e w' => e = .returned .nilIface ∧ Lib.BuilderAt 93 5 B b (.pointer (some ⟨b, 0, none⟩)) (bs ++ [.int .u8 c]) w' ∧ Below B w w' := by
  obtain ⟨i0, hi, hz0, hz1, hz2⟩ := inf5
  have HI := Aside0.mk hi
  clear hi
  go_enter Tryd.func45, Tryd.ntmps45
  go_wp2_with (go_at_call 56; refine (copyCheck_calls B b bs _ h).mono ?_)
  rintro e w1 ⟨rfl, h1, hb1⟩
  obtain ⟨hB, v, hbk, hown, hne⟩ := h1
  have c0 : w1.cell? ⟨b, 0, none⟩ = some (.pointer (some ⟨b, 0, none⟩)) := by rw [Lib.cell_of_heap hbk]; rfl
  have c1 : w1.cell? ⟨b, 1, none⟩ = some v := by rw [Lib.cell_of_heap hbk]; rfl
  have hs1 := hb1.size
  have hl : ∀ (j : Nat) u, [Value.int .u8 c][j]? = some u → (w1.alloc (.cells #[.int .u8 c] 5)).cell? ((⟨w1.heap.size, 0, none⟩ : Addr).add j) = some u := by
    intro j u hu
    rw [add_plain, blk_cell (blk_new w1 (.cells #[.int .u8 c] 5))]
    simpa using hu
  have HLI := Aside0.mk hl
  clear hl
  go_wp2_with (at_builtin; refine wpList_append_own _ rfl _ _ 91 rfl B 5 i0 (.int .u8 0) 1 1 Tryd.underlying91 HI.out hz0 hz1 hz2 rfl (by decide) _ _ _ rfl (hown.alloc _) ⟨w1.heap.size, 0, none⟩ 1 1 [.int .u8 c] rfl rfl HLI.out (by intro u hu; simp at hu; subst hu; rfl) (by unfold maxLen; omega) (by omega) (by simp; omega) ?_)
  intro v' w2 hown' hgrow _
  have hlt : b < w1.heap.size := blk_lt hbk
  have hb2 : w2.heap[b]? = some (.cells #[.pointer (some ⟨b, 0, none⟩), v] 93 (0, 0)) := by
    rw [hgrow.block b (by simp; omega) (fun e => hne e.symm), Below.heap_alloc _ _ _ hlt]
    exact hbk
  have d0 : w2.cell? ⟨b, 0, none⟩ = some (.pointer (some ⟨b, 0, none⟩)) := by rw [Lib.cell_of_heap hb2]; rfl
  have d1 : w2.cell? ⟨b, 1, none⟩ = some v := by rw [Lib.cell_of_heap hb2]; rfl
  have f1 : w2.frozen? ⟨b, 1, none⟩ = false := Lib.frozen_of_heap hb2 1
  obtain ⟨ao, n', cap, rfl⟩ : ∃ ao n' cap, v' = .slice ao n' cap := by
    rcases hown'.2 with ⟨hv, _⟩ | ⟨g, cap, cur, hv, _⟩
    · exact ⟨_, _, _, hv⟩
    · exact ⟨_, _, _, hv⟩
  go_wp2
  go_ret
  refine ⟨rfl, ?_, ?_⟩
  · exact Lib.BuilderAt.put (T := 93) (e := 5) hB hb2 (bs' := bs ++ [.int .u8 c]) (by simpa using hown') (by decide)
  · exact ((hb1.alloc (by omega) _).grown hgrow (by simp; omega) (fun k hk => (hown.lt k hk).1)).setCell (p := ⟨b, 1, none⟩) hB _

/-! ### history.text -/
/-- The library's table stands. -/
def Tab (w : World) : Prop := Lib.TabIs Tryd.prog w "internal/strconv.uint64pow10" .u64 Lib.pow10Tab
theorem Tab.below {w w1 : World} (h : Tab w) (hb : Below w.heap.size w w1) : Tab w1 := by
  unfold Tab Lib.TabIs World.var? at *
  obtain ⟨g, hg, h⟩ := Option.bind_eq_some_iff.1 h
  refine Option.bind_eq_some_iff.2 ⟨g, hg, ?_⟩
  have hlt : g < w.heap.size := by
    rcases Nat.lt_or_ge g w.heap.size with h' | h'
    · exact h'
    · simp [Array.getElem?_eq_none h'] at h
  rw [hb.block g hlt]
  exact h
/-- A number that an int holds. -/
def I64 (n : Int) : Prop := -9223372036854775808 ≤ n ∧ n ≤ 9223372036854775807
def txt (l : List Int) : List UInt8 := l.flatMap fun n => Lib.itoa n ++ [32]
theorem txt_len {l : List Int} (h : ∀ n ∈ l, I64 n) : (txt l).length ≤ 22 * l.length := by
  induction l with
  | nil => simp [txt]
  | cons n l ih =>
    have h1 := Lib.itoa_length_le n (h n (by simp)).1 (h n (by simp)).2
    have h2 := ih (fun m hm => h m (by simp [hm]))
    simp only [txt, List.flatMap_cons, List.length_append, List.length_cons, List.length_nil] at h2 ⊢
    omega
theorem txt_snoc (l : List Int) (n : Int) : txt (l ++ [n]) = (txt l ++ Lib.itoa n) ++ [32] := by simp [txt]
theorem builder_below {B b : Nat} {p : Value} {bs : List Value} {w w1 : World} (h : Lib.BuilderAt 93 5 B b p bs w) (hb : Below w.heap.size w w1) : Lib.BuilderAt 93 5 B b p bs w1 := by
  obtain ⟨hB, v, hbk, hown, hne⟩ := h
  exact ⟨hB, v, (hb.block b (blk_lt hbk)).trans hbk, pw_own_below hown hb, hne⟩
theorem grow_below (w : World) (k : Nat) (os : Array Obj) : Below w.heap.size w (Go.Sort.grow (w.drewN k) os) := by
  refine ⟨rfl, rfl, rfl, by simp [Go.Sort.grow], fun i hi => ?_⟩
  simp [Go.Sort.grow, Array.getElem?_append, hi]
theorem isBuilder_below {B b : Nat} {bs : List Value} {w w1 : World} (h : Lib.IsBuilder 93 5 B b bs w) (hb : Below w.heap.size w w1) : Lib.IsBuilder 93 5 B b bs w1 := h.imp (fun h => builder_below h hb) (fun h => builder_below h hb)
theorem strCells_bytes (l : List UInt8) : Lib.strCells ⟨l.toArray⟩ = Lib.byteCells l := by
  simp [Lib.strCells, Lib.byteCells]
theorem isB {B b : Nat} {bs : List Value} {w : World} (h : Lib.BuilderAt 93 5 B b (.pointer (some ⟨b, 0, none⟩)) bs w) : Lib.IsBuilder 93 5 B b bs w := .inr h
theorem itoa_calls (n : Int) (h0 : -9223372036854775808 ≤ n) (h1 : n ≤ 9223372036854775807) (w : World) (htab : Tab w) :
    Calls Tryd.prog 44 #[.int .i64 n] w fun e w' => e = .returned (.string ⟨(Lib.itoa n).toArray⟩) ∧ Below w.heap.size w w' := by
  refine (Tryd.strconv_Itoa n h0 h1 w htab).mono ?_
  rintro e w' ⟨rfl, k, os, rfl⟩
  exact ⟨rfl, grow_below w k os⟩
set_option maxHeartbeats 4000000 in
set_option maxRecDepth 100000 in
theorem text_calls (A0 : Option Addr) (c0 : Nat) (l : List Int) (w : World) (hr0 : Kd.C (Kd.int .i64) w A0 l.length l) (hc0 : l.length ≤ c0) (hI : ∀ n ∈ l, I64 n) (hlen : l.length ≤ 5000) (htab : Tab w) :
    Calls Tryd.prog 27 #[.slice A0 l.length c0] w fun e w' => e = .returned (.string ⟨(txt l).toArray⟩) ∧ Below w.heap.size w w' := by
  have HR0 := Aside0.mk hr0
  have HC0 := Aside0.mk hc0
  have HI := Aside0.mk hI
  have HT := Aside0.mk htab
  clear hr0 hc0 hI htab
  have H0 : Aside0 (Lib.IsBuilder 93 5 w.heap.size w.heap.size (Lib.byteCells (txt [])) (w.alloc (.cells #[.pointer none, .slice none 0 0] 93))) := ⟨Lib.fresh_isBuilder 93 5 w⟩
  go_enter Tryd.func27, Tryd.ntmps27
  go_wp2
  have HB0 : Aside0 (Below w.heap.size w (w.alloc (.cells #[.pointer none, .slice none 0 0] 93))) := ⟨below_alloc (Below.refl _ _) _⟩
  go_loopg [8] (l.length + 1) (fun gk v8 wr => ∃ (i : Nat), v8 = .int .i64 i ∧ i ≤ l.length ∧ l.length - i < gk ∧ Aside0 (Lib.IsBuilder 93 5 w.heap.size w.heap.size (Lib.byteCells (txt (l.take i))) wr) ∧ Aside0 (Below w.heap.size w wr))
  case atStart => exact ⟨0, rfl, by omega, by omega, H0, HB0⟩
  case round =>
    clear H0 HB0
    obtain ⟨i, rfl, i1, hg, HS, HB⟩ := hrel
    by_cases hlt : i < l.length
    · have hlt' : decide ((i : Int) < (l.length : Int)) = true := decide_eq_true (by omega)
      obtain ⟨ad, e1, g1⟩ := Kd.at_int (Kd.C_below HR0.out HB.out) (i : Int) (by omega) (by omega)
      subst e1
      rw [Int.toNat_natCast] at g1
      obtain ⟨x, hx⟩ : ∃ x, x = rd l (i : Int) := ⟨_, rfl⟩
      rw [← hx] at g1
      have hmem : x ∈ l := by rw [hx]; simp [rd, hlt]
      have hxI := HI.out x hmem
      have htk : Aside0 (l.take (i + 1) = l.take i ++ [x]) := ⟨by rw [hx, List.take_succ_eq_append_getElem hlt]; simp [rd, hlt]⟩
      have hl1 := txt_len (l := l.take i) (fun n hn => HI.out n (List.mem_of_mem_take hn))
      have hl2 := Lib.itoa_length_le x hxI.1 hxI.2
      rw [List.length_take, Nat.min_eq_left (by omega)] at hl1
      have hs0 := HB.out.size
      obtain ⟨hx0, hx1⟩ := hxI
      have hsz : (⟨(Lib.itoa x).toArray⟩ : ByteArray).size = (Lib.itoa x).length := by simp [ByteArray.size]
      have HLB1 : Aside0 ((Lib.byteCells (txt (l.take i))).length + (⟨(Lib.itoa x).toArray⟩ : ByteArray).size ≤ 140737488355328) := ⟨by rw [Lib.byteCells_length, hsz]; omega⟩
      have HLB2 : Aside0 ((Lib.byteCells (txt (l.take i)) ++ Lib.strCells ⟨(Lib.itoa x).toArray⟩).length + 1 ≤ 140737488355328) := ⟨by rw [List.length_append, Lib.byteCells_length, Lib.strCells_length, hsz]; omega⟩
      clear hx hmem hsz
      go_wp2_with (first
        | (go_at_call 44; (with_reducible refine (itoa_calls x hx0 hx1 _ (HT.out.below HB.out)).mono ?_); rintro e w1 ⟨rfl, hb⟩; have HS1 := Aside0.mk (isBuilder_below HS.out hb); have HB1 : Aside0 (Below w.heap.size w w1) := ⟨below_then HB.out hs0 hb⟩; have hs1 := hb.size; clear hb)
        | (go_at_call 43; (with_reducible refine (writeString_calls w.heap.size w.heap.size (Lib.byteCells (txt (l.take i))) ⟨(Lib.itoa x).toArray⟩ _ HS1.out HLB1.out (by omega)).mono ?_); rintro e w2 ⟨rfl, hW, hb⟩; have HS2 := Aside0.mk (isB hW); have HB2 : Aside0 (Below w.heap.size w w2) := ⟨HB1.out.trans hb⟩; have hs2 := hb.size; clear hW hb)
        | (go_at_call 45; (with_reducible refine (writeByte_calls w.heap.size w.heap.size (Lib.byteCells (txt (l.take i)) ++ Lib.strCells ⟨(Lib.itoa x).toArray⟩) 32 _ HS2.out HLB2.out (by omega)).mono ?_); rintro e w3 ⟨rfl, hW, hb⟩; have HS3 := Aside0.mk hW; have HB3 : Aside0 (Below w.heap.size w w3) := ⟨HB2.out.trans hb⟩; clear hW hb))
      go_roundg (gk - 1)
      case measure => omega
      case rel =>
        refine ⟨i + 1, by go_num, by omega, by omega, ⟨?_⟩, HB3⟩
        rw [htk.out, txt_snoc]
        have := HS3.out
        rw [strCells_bytes, ← Lib.byteCells_append] at this
        have e32 : [Value.int .u8 32] = Lib.byteCells [32] := rfl
        rw [e32, ← Lib.byteCells_append] at this
        exact .inr this
    · have hlt' : decide ((i : Int) < (l.length : Int)) = false := decide_eq_false (by omega)
      obtain rfl : i = l.length := by omega
      have HS' : Aside0 (Lib.IsBuilder 93 5 w.heap.size w.heap.size (Lib.byteCells (txt l)) wr) := ⟨by have := HS.out; rwa [List.take_length] at this⟩
      go_wp2_with (go_at_call 46; (with_reducible refine (Tryd.Builder_String_any w.heap.size w.heap.size (txt l) _ HS'.out HB.out.size).mono ?_); rintro e w1 ⟨rfl, hb⟩; have HB1 : Aside0 (Below w.heap.size w w1) := ⟨HB.out.trans hb⟩; clear hb)
      go_ret
      exact ⟨rfl, HB1.out⟩
end Go.Proofs.YtakhipedjccpkaaDoor.PH
