/-
  Layer 9 (code): Same of the program: by slices.Equal and slices.EqualFunc.
-/
import Derived.Test.YtjacfeohpofhpaaDoorEqual
import Derived.Test.YtjacfeohpofhpaaDoorFind
namespace Go.Proofs.YtjacfeohpofhpaaDoor
open Go.RowKit
set_option linter.unusedSimpArgs false
set_option linter.unusedVariables false

/-- Two functions, alike in all fields. -/
def sameF (f g : FuncD) : Bool := eqN f.name g.name && ((f.regs == g.regs) && ((f.words == g.words) && (eqTo f.params.length g.params.length (sameS f.params g.params) && eqTo f.code.length g.code.length (sameX f.code g.code))))
def sameFs (fs gs : List FuncD) (k : Nat) : Bool := sameF (nthF fs k) (nthF gs k)
/-- Two modules. -/
def sameD (a b : ModD) : Bool := eqTo a.ths.length b.ths.length (sameI a.ths b.ths) && eqTo a.funcs.length b.funcs.length (sameFs a.funcs b.funcs)

theorem nthF_wf {fs : List FuncD} (h : ∀ f, f ∈ fs → f.Wf) {k : Nat} (hk : k < fs.length) : (nthF fs k).Wf := by
  unfold nthF
  rw [List.getD_eq_getElem?_getD, List.getElem?_eq_getElem hk]
  exact h _ (List.getElem_mem hk)

end Go.Proofs.YtjacfeohpofhpaaDoor
