/-
  Layer 7 (wide): the calls whose answers the document fixes: fixed answers yes.
-/
import Derived.Test.YtofibaomjidieaaDoorParse
import Derived.Test.YtofibaomjidieaaDoorText1
import Derived.Test.YtofibaomjidieaaDoorKeepB
import Derived.Deep.RegionWith
import Derived.Deep.DeepCutAuto
namespace Go.Proofs.YtofibaomjidieaaDoor
open Go.RowKit
set_option linter.unusedSimpArgs false
set_option linter.unusedVariables false
theorem pow_S {w w' : World} {R : Prop} (h : Below w.heap.size w w' ∧ R) (ht : Pow10 w) : Pow10 w' := ht.step h.1
abbrev txt1 : ByteArray := ⟨#[49, 56, 52, 52, 54, 55, 52, 52, 48, 55, 51, 55, 48, 57, 53, 53, 49, 54, 49, 54]⟩
theorem of_1 (w : World) : Calls Tryd.prog 16 #[.int .u64 1] w fun e w' => e = .returned (.agg #[.int .u64 0, .int .u64 1]) ∧ Below w.heap.size w w' := ofP 1 w
theorem of_7 (w : World) : Calls Tryd.prog 16 #[.int .u64 7] w fun e w' => e = .returned (.agg #[.int .u64 0, .int .u64 7]) ∧ Below w.heap.size w w' := ofP 7 w
theorem add_1 (w : World) : Calls Tryd.prog 11 #[.agg #[.int .u64 0, .int .u64 18446744073709551615], .agg #[.int .u64 0, .int .u64 1]] w fun e w' => e = .returned (.tuple #[.agg #[.int .u64 1, .int .u64 0], .bool true]) ∧ Below w.heap.size w w' :=
  addP ⟨0, 18446744073709551615⟩ ⟨0, 1⟩ ⟨by decide, by decide⟩ ⟨by decide, by decide⟩ w
theorem times_1 (w : World) : Calls Tryd.prog 17 #[.agg #[.int .u64 1, .int .u64 0], .int .u64 18446744073709551615] w fun e w' => e = .returned (.tuple #[.agg #[.int .u64 18446744073709551615, .int .u64 0], .bool true]) ∧ Below w.heap.size w w' :=
  timesP ⟨1, 0⟩ 18446744073709551615 ⟨by decide, by decide⟩ (by decide) w
theorem fits_1 (w : World) : Calls Tryd.prog 21 #[.agg #[.int .u64 0, .int .u64 9223372036854775807]] w fun e w' => e = .returned (.tuple #[.int .i64 9223372036854775807, .bool true]) ∧ Below w.heap.size w w' :=
  fitsP ⟨0, 9223372036854775807⟩ ⟨by decide, by decide⟩ w
theorem mul_1 (w : World) : Calls Tryd.prog 19 #[.int .u64 9223372036854775808, .int .u64 6] w fun e w' => e = .returned (.agg #[.int .u64 3, .int .u64 0]) ∧ Below w.heap.size w w' :=
  mulP 9223372036854775808 6 (by decide) (by decide) w
theorem cmp_1 (w : World) : Calls Tryd.prog 14 #[.agg #[.int .u64 1, .int .u64 0], .agg #[.int .u64 0, .int .u64 7]] w fun e w' => e = .returned (.int .i64 1) ∧ Below w.heap.size w w' :=
  compareP ⟨1, 0⟩ ⟨0, 7⟩ ⟨by decide, by decide⟩ ⟨by decide, by decide⟩ w
theorem parse_1 (w : World) : Calls Tryd.prog 25 #[.string txt1] w fun e w' => e = .returned (.tuple #[.agg #[.int .u64 1, .int .u64 0], .int .i64 0]) ∧ Below w.heap.size w w' := by
  have h := parseP txt1 (by decide) w
  have e1 : parseE txt1 = 0 := by decide +kernel
  have e2 : ((parseV txt1).hi : Int) = 1 := by decide +kernel
  have e3 : ((parseV txt1).lo : Int) = 0 := by decide +kernel
  rw [Wd.v, e1, e2, e3] at h
  exact h
set_option maxHeartbeats 4000000 in
set_option maxRecDepth 100000 in
theorem fixedL (w : World) (ht : Pow10 w) : Calls Tryd.prog 13 #[] w fun e w' => e = .returned (.bool true) ∧ Below w.heap.size w w' := by
  go_enter Tryd.func13, Tryd.ntmps13
  go_wp2_with (first
    | (go_at_call 16; refine (of_1 _).mono ?_; rintro e w1 ⟨rfl, hb1⟩; have B1 := hb1)
    | (go_at_call 11; refine (add_1 _).mono ?_; rintro e w2 ⟨rfl, hb2⟩; have B2 := below_step B1 hb2; have P1 := Whl.new w2 24 #[.int .u64 1, .int .u64 0])
    | (go_at_call 17; refine (times_1 _).mono ?_; rintro e w3 ⟨rfl, hb3⟩; have B3 := below_step (below_alloc B2 _) hb3; have Q1 := P1.below' hb3; have P2 := Whl.new w3 24 #[.int .u64 18446744073709551615, .int .u64 0])
    | (go_at_call 21; refine (fits_1 _).mono ?_; rintro e w4 ⟨rfl, hb4⟩; have B4 := below_step (below_alloc B3 _) hb4; have R1 := (Q1.alloc _).below' hb4; have R2 := P2.below' hb4)
    | (go_at_call 25; refine (parse_1 _).mono ?_; rintro e w5 ⟨rfl, hb5⟩; have B5 := below_step B4 hb5; have S1 := R1.below' hb5; have S2 := R2.below' hb5; have a0 := S1.cell 0; have a1 := S1.cell 1; have b0 := S2.cell 0; have b1 := S2.cell 1; have l1 := S1.lt; have l2 := S2.lt))
  have c0 := (Whl.new w5 24 #[.int .u64 1, .int .u64 0]).cell 0
  have c1 := (Whl.new w5 24 #[.int .u64 1, .int .u64 0]).cell 1
  go_region_held3 (fun w' => Below w.heap.size w w' ∧ w'.cell? ⟨w2.heap.size, 0, none⟩ = some (.int .u64 1) ∧ w'.cell? ⟨w2.heap.size, 1, none⟩ = some (.int .u64 0) ∧ w'.cell? ⟨w3.heap.size, 0, none⟩ = some (.int .u64 18446744073709551615) ∧ w'.cell? ⟨w3.heap.size, 1, none⟩ = some (.int .u64 0) ∧ w'.cell? ⟨w5.heap.size, 0, none⟩ = some (.int .u64 1) ∧ w'.cell? ⟨w5.heap.size, 1, none⟩ = some (.int .u64 0))
    (first | exact keepB6 (by assumption) (by assumption) | exact keepA6 (by assumption) | (refine ⟨by repeat (first | exact B5 | with_reducible apply Below.drew | with_reducible apply below_alloc), ?_⟩; go_simp))
    (first
      | (go_at_call 23; refine (text1 _ (pow_S (by assumption) ht)).mono ?_; rintro e w6 ⟨rfl, hb6⟩)
      | (go_at_call 16; refine (of_7 _).mono ?_; rintro e w7 ⟨rfl, hb7⟩)
      | (go_at_call 14; refine (cmp_1 _).mono ?_; rintro e w8 ⟨rfl, hb8⟩)
      | (go_at_call 19; refine (mul_1 _).mono ?_; rintro e w9 ⟨rfl, hb9⟩))
  go_wp2
  go_ret
  refine ⟨by simp, ?_⟩
  refine below_step (below_step (below_step (below_step ?_ hb6) hb7) hb8) hb9
  repeat (first | exact B5 | with_reducible apply Below.drew | with_reducible apply below_alloc)
end Go.Proofs.YtofibaomjidieaaDoor
