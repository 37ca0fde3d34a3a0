/-
  Layer 7 (wide): the walks of Times and Fits of package wide.
-/
import Derived.Test.YtofibaomjidieaaDoorWide
import Derived.Test.YtofibaomjidieaaDoorKeepB
import Derived.Deep.RegionWith
import Derived.Deep.DeepCutAuto
namespace Go.Proofs.YtofibaomjidieaaDoor
open Go.RowKit Go.Shelf
set_option linter.unusedSimpArgs false
set_option linter.unusedVariables false
/-- What the two products leave: each in a variable of its own; the result's variable as it was. -/
def TR (w : World) (L M : Wd) (s6 s7 : Value) (W : World) : Prop :=
  ∃ g6 g7 : Nat, s6 = .pointer (some ⟨g6, 0, none⟩) ∧ s7 = .pointer (some ⟨g7, 0, none⟩) ∧ Below w.heap.size w W ∧ g6 < W.heap.size ∧ g7 < W.heap.size ∧ w.heap.size + 1 < W.heap.size ∧
    (W.cell? ⟨g6, 0, none⟩ = some (.int .u64 (L.hi : Int)) ∧ W.cell? ⟨g6, 1, none⟩ = some (.int .u64 (L.lo : Int)) ∧ W.cell? ⟨g7, 0, none⟩ = some (.int .u64 (M.hi : Int)) ∧ W.cell? ⟨g7, 1, none⟩ = some (.int .u64 (M.lo : Int)) ∧
    W.cell? ⟨w.heap.size + 1, 0, none⟩ = some (.int .u64 0) ∧ W.cell? ⟨w.heap.size + 1, 1, none⟩ = some (.int .u64 0) ∧ W.frozen? ⟨w.heap.size + 1, 0, none⟩ = false ∧ W.frozen? ⟨w.heap.size + 1, 1, none⟩ = false)
set_option maxHeartbeats 16000000 in
theorem timesP (a : Wd) (b : Nat) (ha : a.Wf) (hb : b < 18446744073709551616) (w : World) : Calls Tryd.prog 17 #[a.v, .int .u64 (b : Int)] w fun e w' => e = .returned (.tuple #[(wdOf (a.val * b)).v, .bool (fits2 (a.val * b))]) ∧ Below w.heap.size w w' := by
  have h1 := ha.hi; have h2 := ha.lo
  have HV0 : (wd (a.hi * b)).hi = 0 → wdOf (a.val * b) = wdOf ((wd (a.lo * b)).val + (⟨(wd (a.hi * b)).lo, 0⟩ : Wd).val) ∧ fits2 (a.val * b) = fits2 ((wd (a.lo * b)).val + (⟨(wd (a.hi * b)).lo, 0⟩ : Wd).val) := fun h => by
    have e : a.val * b = (wd (a.lo * b)).val + (⟨(wd (a.hi * b)).lo, 0⟩ : Wd).val := by
      rw [wd_val]
      simp only [wd] at h ⊢
      simp only [Wd.val, Nat.add_mul, Nat.mul_assoc]
      have := Nat.div_add_mod (a.hi * b) 18446744073709551616
      rw [Nat.mul_left_comm a.hi 18446744073709551616 b]
      omega
    rw [e]; exact ⟨rfl, rfl⟩
  have HV1 : (wd (a.hi * b)).hi ≠ 0 → wdOf (a.val * b) = ⟨0, 0⟩ ∧ fits2 (a.val * b) = false := fun h => by
    have hf : fits2 (a.val * b) = false := by
      simp only [fits2, decide_eq_false_iff_not]
      simp only [wd] at h
      simp only [Wd.val, Nat.add_mul, Nat.mul_assoc]
      rw [Nat.mul_left_comm a.hi 18446744073709551616 b]
      omega
    exact ⟨by unfold wdOf; rw [if_neg (by simp [hf])], hf⟩
  have HW1 : (wd (a.lo * b)).Wf := wd_wf (Nat.lt_of_lt_of_le (Nat.mul_lt_mul'' h2 hb) (by decide))
  have HW2 : (⟨(wd (a.hi * b)).lo, 0⟩ : Wd).Wf := ⟨by simp only [wd]; omega, by show 0 < 18446744073709551616; omega⟩
  have HV0 := Lib.hid HV0
  have HV1 := Lib.hid HV1
  go_enter Tryd.func17, Tryd.ntmps17
  go_wp2
  have S0 : Below w.heap.size w ((w.alloc (.cells #[.int .u64 (a.hi : Int), .int .u64 (a.lo : Int)] 24)).alloc (.cells #[.int .u64 0, .int .u64 0] 24)).drew ∧ ((w.alloc (.cells #[.int .u64 (a.hi : Int), .int .u64 (a.lo : Int)] 24)).alloc (.cells #[.int .u64 0, .int .u64 0] 24)).drew.cell? ⟨w.heap.size, 0, none⟩ = some (.int .u64 (a.hi : Int)) ∧ ((w.alloc (.cells #[.int .u64 (a.hi : Int), .int .u64 (a.lo : Int)] 24)).alloc (.cells #[.int .u64 0, .int .u64 0] 24)).drew.cell? ⟨w.heap.size, 1, none⟩ = some (.int .u64 (a.lo : Int)) := by
    refine ⟨by repeat (first | exact Below.refl _ _ | with_reducible apply Below.drew | with_reducible apply below_alloc), ?_, ?_⟩
    · exact ((Whl.new _ _ _).alloc _).cell 0
    · exact ((Whl.new _ _ _).alloc _).cell 1
  go_cut [6, 7] (fun s6 s7 wx => TR w (wd (a.lo * b)) (wd (a.hi * b)) s6 s7 wx)
  case first =>
    go_region_held3 (fun w' => Below w.heap.size w w' ∧ w'.cell? ⟨w.heap.size, 0, none⟩ = some (.int .u64 (a.hi : Int)) ∧ w'.cell? ⟨w.heap.size, 1, none⟩ = some (.int .u64 (a.lo : Int)))
      (first | exact keepB2 (by assumption) (by assumption) | exact keepA2 (by assumption) | (refine ⟨by repeat (first | assumption | exact Below.refl _ _ | with_reducible apply Below.drew | with_reducible apply below_alloc | with_reducible refine Below.setCell ?_ (by first | (simp; done) | (simp; omega)) _), ?_⟩; go_simp))
      (first
        | (go_at_call 19; with_reducible refine (mulP a.lo b h2 hb _).mono ?_; rintro e w1 ⟨rfl, hb1⟩; obtain ⟨hcc1, hff1⟩ := bcell hb1; have hs1 := hb1.size; (try simp at hs1); (try have l1a : w.heap.size < w1.heap.size := (by omega)); (try have l1b : w.heap.size + 1 < w1.heap.size := (by omega)); (try have l1c : w.heap.size + 1 + 1 < w1.heap.size := (by omega)); (try have l1d : w.heap.size + 1 + 1 + 1 < w1.heap.size := (by omega)); have B1 : Below w.heap.size w w1 := below_step (by repeat (first | assumption | exact Below.refl _ _ | with_reducible apply Below.drew | with_reducible apply below_alloc)) hb1)
        | (go_at_call 19; with_reducible refine (mulP a.hi b h1 hb _).mono ?_; rintro e w2 ⟨rfl, hb2⟩; obtain ⟨hcc2, hff2⟩ := bcell hb2; have hs2 := hb2.size; (try simp at hs2); (try have l2a : w.heap.size < w2.heap.size := (by omega)); (try have l2b : w.heap.size + 1 < w2.heap.size := (by omega)); (try have l2c : w.heap.size + 1 + 1 < w2.heap.size := (by omega)); (try have l2d : w.heap.size + 1 + 1 + 1 < w2.heap.size := (by omega)); (try have l2e : w1.heap.size < w2.heap.size := (by omega)); (try have l2f : w1.heap.size + 1 < w2.heap.size := (by omega)); have B2 : Below w.heap.size w w2 := below_step (by repeat (first | assumption | exact Below.refl _ _ | with_reducible apply Below.drew | with_reducible apply below_alloc)) hb2))
    all_goals
      go_wp2_with fail
      go_meet
      refine ⟨_, _, rfl, rfl, (by repeat (first | assumption | exact Below.refl _ _ | with_reducible apply Below.drew | with_reducible apply below_alloc | with_reducible refine Below.setCell ?_ (by first | (simp; done) | (simp; omega)) _)), by first | (simp; done) | (simp; omega), by first | (simp; done) | (simp; omega), by first | (simp; done) | (simp; omega), ?_⟩
      go_simp
      all_goals (try (simp (disch := (first | (simp [*]; done) | (go_simp; done))) only [World.cell?_setCell_same', true_and, and_true]))
  case rest =>
    obtain ⟨g6, g7, rfl, rfl, hB, l6, l7, lr, c0, c1, m0, m1, r0, r1, f0, f1⟩ := hcut
    by_cases hz : (wd (a.hi * b)).hi = 0
    · have u1 : (((wd (a.hi * b)).hi : Int) != 0) = false := by simp [hz]
      have u2 : (((wd (a.hi * b)).hi : Int) == 0) = true := by simp [hz]
      have HZ := Lib.hid (HV0.out hz)
      clear hz
      go_wp2_with (go_at_call 11; refine (addP (wd (a.lo * b)) ⟨(wd (a.hi * b)).lo, 0⟩ HW1 HW2 _).mono ?_; rintro e w9 ⟨rfl, hb9⟩; obtain ⟨hcc9, hff9⟩ := bcell hb9; have hs9 := hb9.size; have l9 : w.heap.size + 1 < w9.heap.size := (by omega); have B9 := below_step hB hb9)
      refine ret_of ?_ rfl
      refine ⟨.tuple #[(wdOf ((wd (a.lo * b)).val + (⟨(wd (a.hi * b)).lo, 0⟩ : Wd).val)).v, .bool (fits2 ((wd (a.lo * b)).val + (⟨(wd (a.hi * b)).lo, 0⟩ : Wd).val))], ?_, by rw [HZ.out.1, HZ.out.2], ?_⟩
      · simp [results, Tryd.results17, go_sem, hcc9, l9, lr, r0, r1]
      · exact (B9.setCell (by simp) _).setCell (by simp) _
    · have u1 : (((wd (a.hi * b)).hi : Int) != 0) = true := by simp [hz]
      have u2 : (((wd (a.hi * b)).hi : Int) == 0) = false := by simp [hz]
      have HZ := Lib.hid (HV1.out hz)
      clear hz
      go_wp2
      refine ret_of ?_ rfl
      refine ⟨.tuple #[Wd.v ⟨0, 0⟩, .bool false], ?_, by rw [HZ.out.1, HZ.out.2], ?_⟩
      · simp [results, Tryd.results17, go_sem, r0, r1]
      · exact (hB.setCell (by simp) _).setCell (by simp) _
end Go.Proofs.YtofibaomjidieaaDoor
