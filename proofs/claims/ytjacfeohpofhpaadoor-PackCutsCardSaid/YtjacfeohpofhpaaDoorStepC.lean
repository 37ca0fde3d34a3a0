/-
  A call of a Go function, as a step of a region that draws, for go_region_law.
-/
import Derived.Test.YtjacfeohpofhpaaDoorKeep
import Derived.Deep.RegionLaw
namespace Go.Proofs.YtjacfeohpofhpaaDoor
open Go.RowKit
theorem step_call {P : Program} {w : World} {ops : Array Oper} {o : Oper} {a : Act} {K : Act → World → Prop} {Q : Exit → Act → World → Prop} {E : Prop} (hgd : o.guard = none) (f : FuncId) (x y z : Operand) (ts : Array TypeId)
    {fn : Func} (hfn : P.funcs[f]? = some fn) (hnm : (fn.name == "runtime.NumGoroutine") = false) (hbd : fn.body.isNone = false) (ho : o.op = .call { callee := .value (.func f), args := #[x, y, z], argTypes := ts })
    {R : World → Value → Prop} (hc : Calls P f #[a.eval x, a.eval y, a.eval z] w fun e w' => ∃ v, e = .returned v ∧ R w' v) (h : ∀ v w', R w' v → K (a.put o.dst v) w') :
    if Region.wanted o (yielded ops a.tmps) = true then Oper.wp P o a w K Q else E := by
  have hw : Region.wanted o (yielded ops a.tmps) = true := by simp [Region.wanted, hgd]
  rw [if_pos hw]
  have hr : o.upon P a K Q (.ok (.enter f #[a.eval x, a.eval y, a.eval z]) w) := by
    rw [Oper.upon_enter]
    refine hc.mono ?_
    rintro e w' ⟨v, rfl, hv⟩
    exact h v w' hv
  unfold Oper.wp execOp
  have hf : a.eval (.func f) = .func (.func f) #[] #[] := rfl
  simp only [ho, resolve, invoke, hf, Deferred.ofValue, callFunc, Sem.run_bind, Sem.run_pure, Result.andThen_ok, List.map_toArray, List.map_cons, List.map_nil]
  have hp : Sem.run P program w = .ok P w := rfl
  simp only [hp, Result.andThen_ok, hfn, hnm, hbd]
  simpa using hr
end Go.Proofs.YtjacfeohpofhpaaDoor
