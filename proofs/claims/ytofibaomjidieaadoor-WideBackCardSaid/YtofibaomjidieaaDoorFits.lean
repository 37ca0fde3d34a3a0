/-
  Layer 7 (wide): the walk of Fits of package wide; the numerals of strconv.FormatUint.
-/
import Derived.Test.YtofibaomjidieaaDoorWide
import Derived.Test.YtofibaomjidieaaDoorKeepB
import Derived.Test.YtofibaomjidieaaDoorShelf
import Derived.Lib.ItoaMem
import Derived.Lib.AppendIntMem
import Derived.Lib.Walk
import Derived.IntWalk
namespace Go.Proofs.YtofibaomjidieaaDoor
open Go.RowKit Go.Shelf
set_option linter.unusedSimpArgs false
set_option linter.unusedVariables false
def fitOk (a : Wd) : Bool := decide (a.val ≤ 9223372036854775807)
def fitD (a : Wd) : Int := if fitOk a = true then (a.lo : Int) else 0
set_option maxHeartbeats 4000000 in
theorem fitsP (a : Wd) (ha : a.Wf) (w : World) : Calls Tryd.prog 21 #[a.v] w fun e w' => e = .returned (.tuple #[.int .i64 (fitD a), .bool (fitOk a)]) ∧ Below w.heap.size w w' := by
  have h1 := ha.hi; have h2 := ha.lo
  have hW : (⟨0, 9223372036854775807⟩ : Wd).Wf := ⟨by decide, by decide⟩
  have hof := fun W => ofP 9223372036854775807 W
  have B0 : Below w.heap.size w (w.alloc (.cells #[.int .u64 (a.hi : Int), .int .u64 (a.lo : Int)] 24)) := below_alloc (Below.refl _ _) _
  have P0 := Whl.new w 24 #[.int .u64 (a.hi : Int), .int .u64 (a.lo : Int)]
  cases hz : fitOk a
  · have hc : cmpD a ⟨0, 9223372036854775807⟩ = 1 := by
      simp only [fitOk, decide_eq_false_iff_not] at hz
      unfold cmpD; rw [if_neg (by simp only [Wd.val] at *; omega), if_neg (by simp only [Wd.val] at *; omega)]
    have hcm := fun W => compareP a ⟨0, 9223372036854775807⟩ ha hW W
    simp only [hc] at hcm
    have hv : fitD a = 0 := by unfold fitD; rw [hz]; rfl
    go_enter Tryd.func21, Tryd.ntmps21
    go_wp2
    go_region_held3 (fun w' => Below w.heap.size w w' ∧ w'.cell? ⟨w.heap.size, 0, none⟩ = some (.int .u64 (a.hi : Int)) ∧ w'.cell? ⟨w.heap.size, 1, none⟩ = some (.int .u64 (a.lo : Int)))
      (first | exact keepB2 (by assumption) (by assumption) | exact keepA2 (by assumption) | exact ⟨Below.drew B0, P0.cell 0, P0.cell 1⟩)
      (first
        | (go_at_call 16; refine (hof _).mono ?_; rintro e w1 ⟨rfl, hb1⟩)
        | (go_at_call 14; refine (hcm _).mono ?_; rintro e w2 ⟨rfl, hb2⟩))
    go_wp2
    go_ret2
    exact ⟨by rw [hv]; rfl, below_step (below_step (Below.drew B0) hb1) hb2⟩
  · have hle : a.val ≤ 9223372036854775807 := by simpa [fitOk] using hz
    have hl : a.hi = 0 ∧ a.lo ≤ 9223372036854775807 := by simp only [Wd.val] at hle; omega
    have hcc : cmpD a ⟨0, 9223372036854775807⟩ = 0 ∨ cmpD a ⟨0, 9223372036854775807⟩ = -1 := by
      unfold cmpD
      by_cases he : a.val = (⟨0, 9223372036854775807⟩ : Wd).val
      · rw [if_pos he]; exact .inl rfl
      · rw [if_neg he, if_pos (by simp only [Wd.val] at *; omega)]; exact .inr rfl
    have hv : fitD a = (a.lo : Int) := by unfold fitD; rw [hz]; rfl
    obtain ⟨c, hc⟩ : ∃ c, cmpD a ⟨0, 9223372036854775807⟩ = c := ⟨_, rfl⟩
    have hcm := fun W => compareP a ⟨0, 9223372036854775807⟩ ha hW W
    simp only [hc] at hcm
    rw [hc] at hcc
    have hc0 : c ≤ 0 := by omega
    have u0 : decide (0 < c) = false := by simp; omega
    have hlo := hl.2
    have hwr : IntKind.i64.wrap (a.lo : Int) = (a.lo : Int) := IntWalk.i64_in _ (by omega)
    clear hc hcc hl hle hc0
    go_enter Tryd.func21, Tryd.ntmps21
    go_wp2
    go_region_held3 (fun w' => Below w.heap.size w w' ∧ w'.cell? ⟨w.heap.size, 0, none⟩ = some (.int .u64 (a.hi : Int)) ∧ w'.cell? ⟨w.heap.size, 1, none⟩ = some (.int .u64 (a.lo : Int)))
      (first | exact keepB2 (by assumption) (by assumption) | exact keepA2 (by assumption) | exact ⟨Below.drew B0, P0.cell 0, P0.cell 1⟩)
      (first
        | (go_at_call 16; refine (hof _).mono ?_; rintro e w1 ⟨rfl, hb1⟩)
        | (go_at_call 14; refine (hcm _).mono ?_; rintro e w2 ⟨rfl, hb2⟩))
    have C2 := (keepB2 hb2 (keepB2 hb1 (show Below w.heap.size w (w.alloc (.cells #[.int .u64 (a.hi : Int), .int .u64 (a.lo : Int)] 24)).drew ∧ (w.alloc (.cells #[.int .u64 (a.hi : Int), .int .u64 (a.lo : Int)] 24)).drew.cell? ⟨w.heap.size, 0, none⟩ = some (.int .u64 (a.hi : Int)) ∧ (w.alloc (.cells #[.int .u64 (a.hi : Int), .int .u64 (a.lo : Int)] 24)).drew.cell? ⟨w.heap.size, 1, none⟩ = some (.int .u64 (a.lo : Int)) from ⟨Below.drew B0, P0.cell 0, P0.cell 1⟩)))
    obtain ⟨C2a, C2b, C2c⟩ := C2
    go_wp2
    go_ret2
    exact ⟨by rw [hv]; rfl, C2a⟩
end Go.Proofs.YtofibaomjidieaaDoor
