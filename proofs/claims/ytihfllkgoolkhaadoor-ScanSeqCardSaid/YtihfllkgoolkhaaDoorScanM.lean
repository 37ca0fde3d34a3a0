/-
  Layer 1 (scan): the condition of the rows, that five variables read as they are laid, gives what ParseInt's contract wants.
-/
import Derived.Test.YtihfllkgoolkhaaDoorScanF
import Derived.Test.YtihfllkgoolkhaaDoorRows
import Derived.LaidMore
import Derived.LaidHandle
import Derived.LaidLaws
import Derived.MakeChecks
namespace Go.Proofs.YtihfllkgoolkhaaDoor
open Go.ChangeShapes Go.WideShapes Go.ChangeAt Go.RowKit
set_option linter.unusedSimpArgs false
set_option linter.unusedVariables false
def laidScan : List (String × DataW Unit) := [("math/bits.deBruijn32tab", Rows.laid_math_bits_deBruijn32tab), ("math/bits.deBruijn64tab", Rows.laid_math_bits_deBruijn64tab), ("internal/strconv.uint64pow10", Rows.laid_internal_strconv_uint64pow10), ("strconv.ErrRange", Rows.laid_strconv_ErrRange), ("strconv.ErrSyntax", Rows.laid_strconv_ErrSyntax)]
theorem tErr : (Tryd.prog.globals[1]?).map (·.type) = some 53 := by kernel_rfl
theorem trod_iface {H : Type} {enc : TypeId × Value → H} {P : Program} {w : World} {base : Nat} {sp : Nat → Bool} {held : Bool} {f : Nat} {t : TypeId} {ms : Array (String × TypeId)} {cs : List Value} {nm : String} {x : DataW H} {p : List MemPlace}
    (ht : P.underlying t = some (.interface ms)) (h : DataW.trod enc P w base sp held f t cs = some (.iface nm x, p)) : ∃ u v, cs = [.iface u v] := by
  cases f with
  | zero => simp [DataW.trod] at h
  | succ f =>
    unfold DataW.trod at h
    rw [ht] at h
    split at h <;> first | (rename_i heq; cases heq; exact ⟨_, _, rfl⟩) | (rename_i heq _; cases heq; exact ⟨_, _, rfl⟩) | (simp_all; done) | trace_state
theorem range_of_laid {W : World} (h : laidMetH Tryd.prog laidScan W) : RangeVar W := by
  rw [MakeChecks.laidMetH_plain _ _ _ (by kernel_rfl)] at h
  obtain ⟨ps, ⟨_, _, _, _, _, _, _, _, _, _, ⟨_, _, _, _, _, _, _, _, _, _, ⟨_, _, _, _, _, _, _, _, _, _, ⟨g, t, cs, f, p, q, hg, ht, hv, hd, _, _⟩, _⟩, _⟩, _⟩, _, _⟩ := h
  obtain rfl := Option.some.inj (range_named.symm.trans hg)
  obtain rfl := Option.some.inj (tErr.symm.trans ht)
  obtain ⟨u, v, hc⟩ := trod_iface Tryd.underlying53 hd
  obtain rfl : cs = #[.iface u v] := Array.toList_inj.1 hc
  exact ⟨u, v, World.block_lt_of_cell? W ⟨1, 0, none⟩ (World.var?_cell hg hv 0), hv⟩
end Go.Proofs.YtihfllkgoolkhaaDoor
