/-
  Layer 8 (span): the arguments opened: spans by value.
-/
import Derived.Test.YtdoikgjdjdgnbaaPlainA
import Derived.Lib.SmallJoins
namespace Go.Proofs.Ytdoikgjdjdgnbaa
open Go.ChangeShapes Go.WideShapes Go.ChangeAt Go.RowKit Go.Joins

theorem open_span {H : Type} {enc : TypeId × Value → H} {W : World} {base b0 : Nat} {spare : Nat → Bool} {held : Bool} {r : Reach} {v : Value} {d : DataW H} {p : List MemPlace}
    (hv : Value.okWide Try.prog W r b0 23 v) (h : DataW.Trod enc Try.prog W base spare held 23 v d p) : ∃ s : Sp, v = .agg #[.int .i64 s.lo, .int .i64 s.hi] ∧ s.Wf := by
  obtain ⟨c0, c1, y0, y1, m, rfl, rfl, rfl, hy0, hy1⟩ := open_agg2 Try.underlying23 (by kernel_rfl) (by kernel_rfl) hv h
  obtain ⟨a, e0, _, wa⟩ := DataW.trod_int Try.underlying2 hy0
  obtain ⟨b, e1, _, wb⟩ := DataW.trod_int Try.underlying2 hy1
  simp at e0 e1
  subst e0 e1
  refine ⟨⟨a, b⟩, rfl, ?_, ?_⟩
  · simpa [Lit.wf, IntKind.min, IntKind.max, IntKind.signed, IntKind.bits] using wa
  · simpa [Lit.wf, IntKind.min, IntKind.max, IntKind.signed, IntKind.bits] using wb
end Go.Proofs.Ytdoikgjdjdgnbaa
