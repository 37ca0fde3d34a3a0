/-
  Layer 7 (wide): the walks of the reference's Times and Mul.
-/
import Derived.Test.YtofibaomjidieaaDoorProduct
namespace Go.Proofs.YtofibaomjidieaaDoor
open Go.RowKit
set_option linter.unusedSimpArgs false
set_option linter.unusedVariables false
set_option maxHeartbeats 16000000 in
set_option maxRecDepth 100000 in
theorem timesR (a : Wd) (b : Nat) (ha : a.Wf) (hb : b < 18446744073709551616) (w : World) : Calls Tryd.prog 18 #[a.v, .int .u64 (b : Int)] w fun e w' => e = .returned (.tuple #[(wdOf (a.val * b)).v, .bool (fits2 (a.val * b))]) ∧ Below w.heap.size w w' := by
  have hbw : (⟨0, b⟩ : Wd).Wf := ⟨by show (0 : Nat) < _; omega, hb⟩
  have hva := valD_digsW ha
  have hvb := valD_digsW hbw
  rw [show (⟨0, b⟩ : Wd).val = b by simp [Wd.val]] at hvb
  have hna := digsW_len a
  have hnb := digsW_len ⟨0, b⟩
  have hda := digsW_digs a
  have hdb := digsW_digs ⟨0, b⟩
  have HX := Lib.hid (show ∀ w, Calls Tryd.prog 28 #[a.v] w fun e w' => ∃ v, e = .returned v ∧ OMem w w.heap.size v (digsW a) w' from fun w => digitsR a ha w)
  have HY := Lib.hid (show ∀ w, Calls Tryd.prog 28 #[.agg #[.int .u64 0, .int .u64 (b : Int)]] w fun e w' => ∃ v, e = .returned v ∧ OMem w w.heap.size v (digsW ⟨0, b⟩) w' from fun w => digitsR ⟨0, b⟩ hbw w)
  generalize digsW a = x at *
  generalize digsW ⟨0, b⟩ = y at *
  have HV := Lib.hid (And.intro hva hvb)
  clear hva hvb
  go_enter Tryd.func18, Tryd.ntmps18
  go_wp2_with (first
    | (go_at_call 28; with_reducible refine (HX.out _).mono ?_; rintro e w1 ⟨v1, rfl, hM1⟩; obtain ⟨g1, c1, rfl, hg1, X1⟩ := hM1.row (by omega))
    | (go_at_call 28; with_reducible refine (HY.out _).mono ?_; rintro e w2 ⟨v2, rfl, hM2⟩; obtain ⟨g2, c2, rfl, hg2, Y2⟩ := hM2.row (by omega); have X2 := X1.go hM2.below X1.lt; (try simp only [hna, hnb]))
    | (go_at_call 31; with_reducible refine (productR g1 c1 g2 c2 x y _ hna hnb hda hdb X2 Y2).mono ?_; rintro e w3 ⟨v3, L, rfl, hM3, hD3, hV3, hL3, hL4⟩; obtain ⟨g3, c3, rfl, hg3, S3⟩ := hM3.row (by omega))
    | (go_at_call 29; with_reducible refine (numberR g3 c3 L _ (by omega) (by omega) hD3 S3).mono ?_; rintro e w4 ⟨rfl, hb4⟩; have R0 := Whl.new1 w (.cells #[.int .u64 (a.hi : Int), .int .u64 (a.lo : Int)] 24) 24 #[.int .u64 0, .int .u64 0]; have R4 := (((R0.below' hM1.below).below' hM2.below).below' hM3.below).below' hb4; obtain ⟨q0, q1, f0, f1⟩ := R4.two))
  refine ret_of ?_ rfl
  refine ⟨.tuple #[(wdOf (valD L)).v, .bool (fits2 (valD L))], ?_, by rw [hV3, HV.out.1, HV.out.2], ?_⟩
  · have z := (R4.put 0 (.int .u64 ((wdOf (valD L)).hi : Int))).put 1 (.int .u64 ((wdOf (valD L)).lo : Int))
    rw [hV3] at z ⊢
    simp [results, Tryd.results18, go_sem, z.cell]
  · have B5 : Below w.heap.size w w4 := below_step (below_step (below_step (below_step (below_alloc (below_alloc (Below.refl _ _) _) _) hM1.below) hM2.below) hM3.below) hb4
    repeat (first | exact B5 | with_reducible apply Below.drew | with_reducible apply below_alloc | (with_reducible refine Below.setCell ?_ (by simp <;> omega) _))
set_option maxHeartbeats 16000000 in
set_option maxRecDepth 100000 in
theorem mulR (x y : Nat) (hx : x < 18446744073709551616) (hy : y < 18446744073709551616) (w : World) : Calls Tryd.prog 20 #[.int .u64 (x : Int), .int .u64 (y : Int)] w fun e w' => e = .returned (wd (x * y)).v ∧ Below w.heap.size w w' := by
  have hbw : (⟨0, x⟩ : Wd).Wf := ⟨by show (0 : Nat) < _; omega, hx⟩
  have hs : x * y < 340282366920938463463374607431768211456 := by
    have := Nat.mul_le_mul (Nat.le_pred_of_lt hx) (Nat.le_pred_of_lt hy)
    exact Nat.lt_of_le_of_lt this (by decide)
  have hf : fits2 (x * y) = true := by simp only [fits2, decide_eq_true_eq]; exact hs
  have HT := Lib.hid (show ∀ w, Calls Tryd.prog 18 #[.agg #[.int .u64 0, .int .u64 (x : Int)], .int .u64 (y : Int)] w fun e w' => e = .returned (.tuple #[(wd (x * y)).v, .bool true]) ∧ Below w.heap.size w w' from fun w => by
    have := timesR ⟨0, x⟩ y hbw hy w
    rwa [show (⟨0, x⟩ : Wd).val = x by simp [Wd.val], hf, show wdOf (x * y) = wd (x * y) by simp [wdOf, hf]] at this)
  generalize wd (x * y) = z at *
  clear hf hs hbw
  go_enter Tryd.func20, Tryd.ntmps20
  go_wp2_with (go_at_call 18; with_reducible refine (HT.out _).mono ?_; rintro e w1 ⟨rfl, hb1⟩; have R1 := (Whl.new w 24 #[.int .u64 0, .int .u64 0]).below' hb1; obtain ⟨q0, q1, f0, f1⟩ := R1.two; have l1 := R1.lt)
  refine ret_of ?_ rfl
  refine ⟨z.v, ?_, rfl, ?_⟩
  · have R2 := ((R1.put 0 (.int .u64 (z.hi : Int))).put 1 (.int .u64 (z.lo : Int))).alloc (.cells #[.int .u64 (z.hi : Int), .int .u64 (z.lo : Int)] 24)
    simp [results, Tryd.results20, go_sem, R2.cell]
  · have B5 : Below w.heap.size w w1 := below_step (below_alloc (Below.refl _ _) _) hb1
    repeat (first | exact B5 | with_reducible apply Below.drew | with_reducible apply below_alloc | (with_reducible refine Below.setCell ?_ (by simp <;> omega) _))
end Go.Proofs.YtofibaomjidieaaDoor
