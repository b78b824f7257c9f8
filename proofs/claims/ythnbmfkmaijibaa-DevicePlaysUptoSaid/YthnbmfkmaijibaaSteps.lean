/- A call of a Go function as a step of a region that draws its order. -/
import Derived.Test.YthnbmfkmaijibaaSepOps
namespace Go.Proofs.Ythnbmfkmaijibaa.Sep
open Go.Proofs Go.RowKit Go.Proofs.YthnbmfkmaijibaaW.PrintWords Go.Proofs.YthnbmfkmaijibaaW.PrintLast Go.Proofs.YthnbmfkmaijibaaW.PrintMore Go.Proofs.Ythnbmfkmaijibaa.Dev
set_option linter.unusedVariables false
set_option linter.unusedSimpArgs false
/-- A call of a Go function as a step of a drawn region, by its contract. -/
theorem call_step {P : Program} {ops : Array Oper} {o : Oper} {a : Act} {K : Act → World → Prop} {Q : Exit → Act → World → Prop} {E : Prop} {W : World} {f : FuncId} {fn : Func} (hf : P.funcs[f]? = some fn) (hname : (fn.name == "runtime.NumGoroutine") = false) (hb : fn.body.isSome = true) (xs : Array Operand) (ts : Array TypeId)
    (hgd : o.guard = none) (ho : o.op = .call { callee := .value (.func f), args := xs, argTypes := ts }) (args : Array Value) (hargs : xs.map a.eval = args)
    (h : Calls P f args W fun e w' => ∃ v, e = .returned v ∧ K (a.put o.dst v) w') : if Region.wanted o (yielded ops a.tmps) = true then Oper.wp P o a W K Q else E := by
  have hw : Region.wanted o (yielded ops a.tmps) = true := by simp [Region.wanted, hgd]
  rw [if_pos hw]
  have he := enters_ hf hname hb args W
  have hrun : (execOp a.eval o).run P W = .ok (.enter f args) W := by
    unfold execOp
    simp [ho, resolve, Deferred.ofValue, invoke, Act.eval, hargs, he]
  unfold Oper.wp
  rw [hrun, Oper.upon_enter]
  refine h.mono fun e w'' hh => ?_
  obtain ⟨v, rfl, hk⟩ := hh
  exact hk
end Go.Proofs.Ythnbmfkmaijibaa.Sep
