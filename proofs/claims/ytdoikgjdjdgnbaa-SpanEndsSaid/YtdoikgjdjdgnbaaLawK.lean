/-
  Layer 8 (span): within, where it says yes.
-/
import Derived.Test.YtdoikgjdjdgnbaaPlainJ
import Derived.Test.YtdoikgjdjdgnbaaSpanA
import Derived.Test.YtdoikgjdjdgnbaaKeep
namespace Go.Proofs.Ytdoikgjdjdgnbaa
open Go.RowKit
set_option linter.unusedSimpArgs false
set_option linter.unusedVariables false
attribute [local go_sem ↓] Go.wp_at_zero Go.wp_at_succ

theorem withinY (a b : Sp) (h : a.within b = true) (w : World) : Calls Try.prog 30 #[.agg #[.int .i64 a.lo, .int .i64 a.hi], .agg #[.int .i64 b.lo, .int .i64 b.hi]] w fun e w' => e = .returned (.bool true) ∧ Below w.heap.size w w' := h ▸ withinL a b w
end Go.Proofs.Ytdoikgjdjdgnbaa

