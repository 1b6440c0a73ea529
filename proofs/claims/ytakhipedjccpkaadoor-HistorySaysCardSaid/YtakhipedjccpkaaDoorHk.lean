/- The key of a met: a number and a text. -/
import Derived.Test.YtakhipedjccpkaaDoorHq
import Derived.Maps.OwnSet
import Derived.DeepKeys4
import Derived.WideKeyArgs2
namespace Go.Proofs.YtakhipedjccpkaaDoor.PH
open Go.RowKit Go.Proofs.YtakhipedjccpkaaDoorW.PrintWords Go.Proofs.YtakhipedjccpkaaDoorW.PrintLast Go.Proofs.YtakhipedjccpkaaDoorW.PrintMore
open Go.Maps
set_option linter.unusedVariables false
set_option linter.unusedSimpArgs false

theorem law70 : Keyed Tryd.prog 70 := Keyed.of_law (deep_law_laid (by kernel_rfl) (m := 2) (by omega) (of_decide_eq_true (by kernel_rfl)) (by kernel_rfl) (by kernel_rfl))
theorem row70 : (70 : TypeId) < Tryd.prog.types.size := of_decide_eq_true (by kernel_rfl)
theorem keyT70 : Tryd.prog.keyType 70 = true := by kernel_rfl
theorem cells70 : Tryd.prog.cellsOf 70 = 2 := by kernel_rfl
theorem cells3' : Tryd.prog.cellsOf 3 = 1 := by kernel_rfl
theorem cells9' : Tryd.prog.cellsOf 9 = 1 := by kernel_rfl
theorem formed70 (c0 c1 : Value) : (Value.agg #[c0, c1]).formed Tryd.prog 70 = true := by
  simp [Value.formed, Tryd.underlying70, cells70]
theorem pred_of : ∀ n : Nat, 70 < n → ∃ m, n = m + 1 := fun n h => ⟨n - 1, by omega⟩
theorem key70 (n : Int) (s : ByteArray) (hn : (Lit.int .i64 n).wf = true) (hs : s.size ≤ maxLen) : ∃ kl, keyOf Tryd.prog 70 (.agg #[.int .i64 n, .string s]) = some kl := by
  obtain ⟨m, hm⟩ := pred_of _ row70
  simp only [keyOf, Tryd.underlying70, keyT70, formed70, hm, Bool.and_self, if_true]
  simp [Program.keyLits, Tryd.underlying70, Value.cells, cells3', cells9', cells70, Tryd.underlying3, Tryd.underlying9, hn, hs, mapKey, Value.formed]
end Go.Proofs.YtakhipedjccpkaaDoor.PH
