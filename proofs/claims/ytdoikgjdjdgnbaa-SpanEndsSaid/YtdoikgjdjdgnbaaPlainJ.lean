/-
  Layer 8 (span): plain facts by which the walks of span.Do and of its reference are joined.
-/
import Derived.Test.YtdoikgjdjdgnbaaPlainO
namespace Go.Proofs.Ytdoikgjdjdgnbaa
open Go.RowKit
set_option linter.unusedSimpArgs false
set_option linter.unusedVariables false

theorem point_eq (a : Sp) : a.point = (a.lo == a.hi) := rfl
theorem decide_eq' (x y : Int) : decide (x = y) = (x == y) := rfl
theorem zero_eq (a : Sp) : a.zero = ((a.lo == 0) && (a.hi == 0)) := rfl
theorem sumOk_wrap {x y : Int} (h : Sp.sumOk x y = true) : wrap64 (x + y) = x + y := IntWalk.wrap64_in _ ((sumOk_iff x y).1 h)
theorem lessOk_wrap {x y : Int} (h : Sp.lessOk x y = true) : wrap64 (x - y) = x - y := IntWalk.wrap64_in _ ((lessOk_iff x y).1 h)
theorem mulOk_wrap {x y : Int} (h : mulOk x y = true) : wrap64 (x * y) = x * y := IntWalk.wrap64_in _ ((mulOk_iff x y).1 h)
end Go.Proofs.Ytdoikgjdjdgnbaa
