/- A call of an object's function, through the variable that holds it. -/
import Derived.Test.YtakhipedjccpkaaDoorHd
namespace Go.Proofs.YtakhipedjccpkaaDoor.PH
open Go.RowKit Go.Proofs.YtakhipedjccpkaaDoorW.PrintWords Go.Proofs.YtakhipedjccpkaaDoorW.PrintLast Go.Proofs.YtakhipedjccpkaaDoorW.PrintMore
open Go.Maps
set_option linter.unusedVariables false
set_option linter.unusedSimpArgs false

def objFn (n : Int) : FuncId := if n = 1 then 38 else if n = 2 then 39 else if n = 3 then 40 else if n = 4 then 41 else 42
theorem obj_fn {n : Int} (h : n = 1 ∨ n = 2 ∨ n = 3 ∨ n = 4 ∨ n = 5) : ∃ fn : Func, Tryd.prog.funcs[objFn n]? = some fn ∧ (fn.name == "runtime.NumGoroutine") = false ∧ fn.body.isSome = true := by
  rcases h with rfl | rfl | rfl | rfl | rfl
  · exact ⟨_, Tryd.func38, by kernel_rfl, rfl⟩
  · exact ⟨_, Tryd.func39, by kernel_rfl, rfl⟩
  · exact ⟨_, Tryd.func40, by kernel_rfl, rfl⟩
  · exact ⟨_, Tryd.func41, by kernel_rfl, rfl⟩
  · exact ⟨_, Tryd.func42, by kernel_rfl, rfl⟩
theorem obj_calls {n : Int} {m : Nat} {s : List Int} (h : Sok n m s) (e : S33) (P : Nat → Prop) (A : Option Addr) (c : Nat) (w : World) (hv : Kd.V (Kd.int .i64) 3 w w.heap.size P (.slice A s.length c) s) :
    Calls Tryd.prog (objFn n) #[.slice A s.length c, vS33 e] w fun x w' => ∃ v, x = .returned v ∧ Kd.N k79 79 w' w.heap.size (fun k => P k ∨ w.heap.size ≤ k) v (waysOf n s e) ∧ Below w.heap.size w w' := by
  have hl := h.short
  obtain ⟨_, hc, hC⟩ := Kd.V_reads' hv
  unfold vS33
  rcases h.is with en | en | en | en | en <;> subst en
  · have h1 := h.one (by omega)
    exact history_adder.calls P A c s e.f0 e.f1 e.f2 e.f3 e.f4 e.f5 e.f6.f0 e.f6.f1 _ w hv (adder_some (by omega) (by omega) e)
  · exact history_stack.calls 1 P A c s e.f0 e.f1 e.f2 e.f3 e.f4 e.f5 e.f6.f0 e.f6.f1 _ w hv (stack_some (by omega) e)
  · have h1 := h.one (by omega)
    refine (history_counter.calls A c s e.f0 e.f1 e.f2 e.f3 e.f4 e.f5 e.f6.f0 e.f6.f1 _ w hC hc (counter_some (by omega) e)).mono ?_
    rintro x w' ⟨v, rfl, hn, hb⟩
    exact ⟨v, rfl, Kd.N_mono hn (fun k hk => .inr hk), hb⟩
  · have h1 := h.one (by omega)
    refine (history_latch.calls 1 A c s e.f0 e.f1 e.f2 e.f3 e.f4 e.f5 e.f6.f0 e.f6.f1 _ w hC hc (latch_some (by omega) (h.four rfl) e)).mono ?_
    rintro x w' ⟨v, rfl, hn, hb⟩
    exact ⟨v, rfl, Kd.N_mono hn (fun k hk => .inr hk), hb⟩
  · obtain ⟨q, q0, q1, q2⟩ := h.five rfl
    exact history_onces.calls 1 P A c s e.f0 e.f1 e.f2 e.f3 e.f4 e.f5 e.f6.f0 e.f6.f1 _ w hv (onces_some q0 q1 q2 e)
section
variable {P : Program} {ops : Array Oper} {Q : Exit → Act → World → Prop}
/-- A call through a variable that holds a function. -/
theorem goesV {rest : List Oper} {oi : Oper} {a : Act} {w : World} (N : Option Tmp) (hd : oi.dst = N) (hg : oi.guard = none) (x : Operand) {f : FuncId} {fn : Func} {xs : Array Operand} {ts : Array TypeId} (hf : P.funcs[f]? = some fn) (hname : (fn.name == "runtime.NumGoroutine") = false) (hb : fn.body.isSome = true) (args : Array Value)
    (hop : oi.op = .call { callee := .value x, args := xs, argTypes := ts }) (hx : a.eval x = .func (.func f) #[] #[]) (hargs : xs.map a.eval = args)
    (h : Calls P f args w fun e w' => ∃ v, e = .returned v ∧ wpList P ops Q rest (a.put N v) w') : wpList P ops Q (oi :: rest) a w := by
  refine wpList_plain hg fun K hK => ?_
  have he := enters_ hf hname hb args w
  have hrun : (execOp a.eval oi).run P w = .ok (.enter f args) w := by
    unfold execOp
    simp [hop, hx, resolve, Deferred.ofValue, invoke, hargs, he]
  unfold Oper.wp
  rw [hrun, Oper.upon_enter]
  refine h.mono fun e w'' hh => ?_
  obtain ⟨v, rfl, hk⟩ := hh
  subst hd
  exact hK _ _ hk
end
end Go.Proofs.YtakhipedjccpkaaDoor.PH
