/-
  Layer 16 (bounds): Keep.
-/
import Derived.Test.YtddobhneplfddaaDoorRows
import Derived.Test.YtddobhneplfddaaDoorZ1
import Derived.Carry
import Derived.Deep.DeepHandedRow
import Derived.Deep.DrawnRows
import Derived.Deep.Light
import Derived.Deep.RegionHeld3
import Derived.JoinedCond
import Derived.Lib.Hide
import Derived.OpenShut
import Derived.OpenVars
import Derived.Outline
import Derived.ProofKit
import Derived.WalkKit
import Derived.WalkLawsBesides
import Derived.WalkSpells
namespace Go.Proofs.YtddobhneplfddaaDoor
set_option maxRecDepth 100000
open Go.ChangeShapes Go.WideShapes Go.ChangeAt Go.RowKit Go.WideElems

namespace Whl
variable {w w' : World} {g : Nat} {t : TypeId} {cs : Array Value}
end Whl

theorem laidOut : laidOutB Tryd.prog = true := by kernel_rfl
/-- Each type of the list can be read and is a row of the table. -/
def typesRowed (P : Program) (ts : List TypeId) : Bool := ts.all fun t => P.readableRec t && decide (t < P.types.size)

section
variable {H : Type} {enc : TypeId × Value → H} {P : Program}

/-- The arguments read behind the call as they did before, where below the heap's old size nothing has turned. -/
theorem below_trodAll (hl : laidOutB P = true) {W W' : World} (hb : Below W.heap.size W W') :
    ∀ {ts : List TypeId} {vs : List Value} {ds : List (DataW H)} {ps : List MemPlace}, typesRowed P ts = true → (∀ x ∈ ps, x.block < W.heap.size) →
      DataW.TrodAll enc P W 0 (fun _ => true) true ts vs ds ps → DataW.TrodAll enc P W' 0 (fun b => decide (b < W.heap.size)) true ts vs ds ps
  | [], _, _, _, _, _, h => by
    obtain ⟨rfl, rfl, rfl⟩ := trodAll_nil h
    exact rfl
  | t :: ts, _, _, ps, hr, hlt, h => by
    obtain ⟨v, vs, d, ds, p, q, rfl, rfl, rfl, h0, r0⟩ := trodAll_cons h
    simp only [typesRowed, List.all_cons, Bool.and_eq_true, decide_eq_true_eq] at hr
    exact ⟨p, q, Below.trod hl hr.1.1 hr.1.2 h0 hb (fun x hx => hlt x (by simp [hx])), below_trodAll hl hb (by simpa [typesRowed] using hr.2) (fun x hx => hlt x (by simp [hx])) r0, rfl⟩

/-- THE ROW's LAST STEP of a law: the call has answered true, and below the heap's old size nothing has turned. -/
theorem law_post {f : Func} {s : ChangeSpec} {W W' : World} {args : Array Value} {ds gs : List (DataW H)} {before : List MemPlace} {tb : TypeId}
    (hl : laidOutB P = true) (ht : typesRowed P f.params.toList = true) (hv : varsRowed P s.vars = true) (hrt : f.resultTypes = #[tb]) (hbool : P.underlying tb = some .bool)
    (hW : DataW.Whole enc P f.params.toList s.vars false W args.toList ds gs before)
    (hr : (s.fn H (ds ++ gs)).results = [.lit (.bool true)]) (ha : (s.fn H (ds ++ gs)).args = ds) (hva : (s.fn H (ds ++ gs)).vars = gs)
    (hb : Below W.heap.size W W') : s.post enc P f false true false false W args (.bool true) W' := by
  have hW' := hW
  obtain ⟨p, q, hA, hV, rfl, hz, hn⟩ := hW
  have hlt : ∀ x ∈ p ++ q, x.block < W.heap.size := fun x hx => hW'.lt x hx
  refine ⟨ds, gs, p ++ q, [], p, q, hW', ?_, ?_, ?_, World.keptBut_mono (fun x hx => ⟨hx, by simpa using hx⟩) (hb.frame (· ∈ p ++ q)), fun h => by cases h⟩
  · rw [hr, hrt]
    exact trodAll_mk1 (shut_bool hbool true)
  · rw [ha]
    exact below_trodAll hl hb ht (fun x hx => hlt x (by simp [hx])) hA
  · rw [hva]
    exact Below.trodVars hl hb hv hV
end
end Go.Proofs.YtddobhneplfddaaDoor

/-
  Small facts on new blocks, and on slices of integers that are read.
-/
namespace Go.Proofs.YtddobhneplfddaaDoor
open Go.RowKit
attribute [go_sem] lt_add_of le_add_of le_of_lt_ lt_add2 le_add2 lt_add3 le_add3 lt_add4 le_add4 lt_add5 le_add5 lt_add6 le_add6 lt_add7 le_add7 lt_add8 le_add8

end Go.Proofs.YtddobhneplfddaaDoor

/-
  Cells that are known stay known behind a call that turns nothing below the heap's size: for the regions that draw their order.
-/
namespace Go.Proofs.YtddobhneplfddaaDoor
open Go.RowKit
end Go.Proofs.YtddobhneplfddaaDoor
