/-
  SpanKeeps: what Below leaves has the two numbers, if the one is below the other one, and nothing that is not so. No condition.
-/
import Derived.Test.YtdoikgjdjdgnbaaFixed
import Derived.Test.YtdoikgjdjdgnbaaSpanR
import Derived.Test.YtdoikgjdjdgnbaaKeep
import Derived.Test.YtdoikgjdjdgnbaaOpen

namespace Go.Proofs.Ytdoikgjdjdgnbaa
open Go.RowKit
set_option linter.unusedSimpArgs false
set_option linter.unusedVariables false
attribute [local go_sem ↓] Go.wp_at_zero Go.wp_at_succ

theorem below_yes {a b : Sp} (h1 : a.lo ≤ a.hi) (h2 : b.lo ≤ b.hi) (h3 : a.lo < b.hi) : a.belowOk b = true ∧ a.belowA b = ⟨a.lo, Sp.mn a.hi (b.hi - 1)⟩ ∧ a.belowB b = ⟨Sp.mx b.lo (a.lo + 1), b.hi⟩ := by
  have e1 : a.none = false := by simp [Sp.none]; omega
  have e2 : b.none = false := by simp [Sp.none]; omega
  have e3 : decide (b.hi ≤ a.lo) = false := by simp; omega
  simp [Sp.belowOk, Sp.belowA, Sp.belowB, e1, e2, e3]
theorem below_no {a b : Sp} (h : a.hi < a.lo ∨ b.hi < b.lo ∨ b.hi ≤ a.lo) : a.belowOk b = false ∧ a.belowA b = ⟨0, 0⟩ ∧ a.belowB b = ⟨0, 0⟩ := by
  have e : (a.none || b.none || decide (b.hi ≤ a.lo)) = true := by simp [Sp.none]; omega
  simp only [Sp.belowOk, Sp.belowA, Sp.belowB, e]
  simp
/-- What Below leaves where it leaves something. -/
theorem below_facts {a b : Sp} (h1 : a.lo ≤ a.hi) (h2 : b.lo ≤ b.hi) (h3 : a.lo < b.hi) : a.belowOk b = true ∧ a.lo ≤ (a.belowA b).lo ∧ (a.belowA b).lo ≤ (a.belowA b).hi ∧ (a.belowA b).hi ≤ a.hi ∧ b.lo ≤ (a.belowB b).lo ∧ (a.belowB b).lo ≤ (a.belowB b).hi ∧ (a.belowB b).hi ≤ b.hi ∧ (a.belowA b).hi < (a.belowB b).hi ∧ (a.belowA b).lo < (a.belowB b).lo := by
  obtain ⟨e1, e2, e3⟩ := below_yes h1 h2 h3
  rw [e1, e2, e3]
  simp only [Sp.mn, Sp.mx]
  refine ⟨trivial, ?_, ?_, ?_, ?_, ?_, ?_, ?_, ?_⟩ <;> (try split) <;> (try split) <;> omega

set_option maxRecDepth 100000 in
set_option maxHeartbeats 800000 in
theorem keepsIn (a b : Sp) (ha : a.Wf) (hb : b.Wf) (x y : Int) (h1 : a.lo ≤ x) (h2 : x ≤ a.hi) (h3 : b.lo ≤ y) (h4 : y ≤ b.hi) (h5 : x < y) (w : World) : Calls Try.prog 8 #[.agg #[.int .i64 a.lo, .int .i64 a.hi], .agg #[.int .i64 b.lo, .int .i64 b.hi], .int .i64 x, .int .i64 y] w fun e w' => e = .returned (.bool true) ∧ Below w.heap.size w w' := by
  have hok : a.belowOk b = true ∧ (a.belowA b).lo ≤ x ∧ x ≤ (a.belowA b).hi ∧ (a.belowB b).lo ≤ y ∧ y ≤ (a.belowB b).hi := by
    obtain ⟨e1, e2, e3⟩ := below_yes (a := a) (b := b) (by omega) (by omega) (by omega)
    rw [e1, e2, e3]
    simp only [Sp.mn, Sp.mx]
    refine ⟨trivial, ?_, ?_, ?_, ?_⟩ <;> (try split) <;> omega
  obtain ⟨k1, k2, k3, k4, k5⟩ := hok
  go_enter Try.func8, Try.ntmps8
  go_wp2_with (first
    | (go_at_call 24; refine (belowP a b ha hb _).mono ?_; rintro e w1 ⟨rfl, hb1⟩; obtain ⟨hcc1, hff1⟩ := bcell hb1; have hs1 := hb1.size; (try simp at hs1); have l0_1 : w.heap.size < w1.heap.size := (by omega); have l1_1 : w.heap.size + 1 < w1.heap.size := (by omega))
    | (go_at_call 13; refine (fixedL _).mono ?_; rintro e w2 ⟨rfl, hb2⟩; obtain ⟨hcc2, hff2⟩ := bcell hb2; have hs2 := hb2.size; (try simp at hs2); have l0_2 : w.heap.size < w2.heap.size := (by omega); have l1_2 : w.heap.size + 1 < w2.heap.size := (by omega); have l2_2 : w1.heap.size < w2.heap.size := (by omega); have l3_2 : w1.heap.size + 1 < w2.heap.size := (by omega)))
  all_goals go_ret
  all_goals refine ⟨by simp, ?_⟩
  all_goals go_light
  all_goals exact (by repeat (first | exact Below.refl _ _ | apply Below.drew | apply below_alloc | refine Below.setCell ?_ (by dsimp only; omega) _ | refine below_step ?_ hb2 | refine below_step ?_ hb1))

set_option maxRecDepth 100000 in
set_option maxHeartbeats 800000 in
theorem keepsNo (a b : Sp) (ha : a.Wf) (hb : b.Wf) (x y : Int) (h : (x < a.lo) ∨ (a.lo ≤ x ∧ a.hi < x) ∨ (a.lo ≤ x ∧ x ≤ a.hi ∧ y < b.lo) ∨ (a.lo ≤ x ∧ x ≤ a.hi ∧ b.lo ≤ y ∧ b.hi < y) ∨ (a.lo ≤ x ∧ x ≤ a.hi ∧ b.lo ≤ y ∧ y ≤ b.hi ∧ y ≤ x)) (n1 : a.hi < a.lo ∨ b.hi < b.lo ∨ b.hi ≤ a.lo) (w : World) : Calls Try.prog 8 #[.agg #[.int .i64 a.lo, .int .i64 a.hi], .agg #[.int .i64 b.lo, .int .i64 b.hi], .int .i64 x, .int .i64 y] w fun e w' => e = .returned (.bool true) ∧ Below w.heap.size w w' := by
  obtain ⟨k1, k2, k3⟩ := below_no n1
  have k4 : (a.belowA b).lo = 0 := by rw [k2]
  have k5 : (a.belowA b).hi = 0 := by rw [k2]
  have k6 : (a.belowB b).lo = 0 := by rw [k3]
  have k7 : (a.belowB b).hi = 0 := by rw [k3]
  clear k2 k3 n1
  rcases h with h | ⟨g1, h⟩ | ⟨g1, g2, h⟩ | ⟨g1, g2, g3, h⟩ | ⟨g1, g2, g3, g4, h⟩
  all_goals
    go_enter Try.func8, Try.ntmps8
    go_wp2_with (first
      | (go_at_call 24; refine (belowP a b ha hb _).mono ?_; rintro e w1 ⟨rfl, hb1⟩; obtain ⟨hcc1, hff1⟩ := bcell hb1; have hs1 := hb1.size; (try simp at hs1); have l0_1 : w.heap.size < w1.heap.size := (by omega); have l1_1 : w.heap.size + 1 < w1.heap.size := (by omega))
      | (go_at_call 13; refine (fixedL _).mono ?_; rintro e w2 ⟨rfl, hb2⟩; obtain ⟨hcc2, hff2⟩ := bcell hb2; have hs2 := hb2.size; (try simp at hs2); have l0_2 : w.heap.size < w2.heap.size := (by omega); have l1_2 : w.heap.size + 1 < w2.heap.size := (by omega); have l2_2 : w1.heap.size < w2.heap.size := (by omega); have l3_2 : w1.heap.size + 1 < w2.heap.size := (by omega)))
    go_ret
    refine ⟨by simp, ?_⟩
    go_light
    exact (by repeat (first | exact Below.refl _ _ | apply Below.drew | apply below_alloc | refine Below.setCell ?_ (by dsimp only; omega) _ | refine below_step ?_ hb2 | refine below_step ?_ hb1))


set_option maxRecDepth 100000 in
set_option maxHeartbeats 800000 in
theorem keepsYes (a b : Sp) (ha : a.Wf) (hb : b.Wf) (x y : Int) (h : (x < a.lo) ∨ (a.lo ≤ x ∧ a.hi < x) ∨ (a.lo ≤ x ∧ x ≤ a.hi ∧ y < b.lo) ∨ (a.lo ≤ x ∧ x ≤ a.hi ∧ b.lo ≤ y ∧ b.hi < y) ∨ (a.lo ≤ x ∧ x ≤ a.hi ∧ b.lo ≤ y ∧ y ≤ b.hi ∧ y ≤ x)) (n1 : a.lo ≤ a.hi) (n2 : b.lo ≤ b.hi) (n3 : a.lo < b.hi) (w : World) : Calls Try.prog 8 #[.agg #[.int .i64 a.lo, .int .i64 a.hi], .agg #[.int .i64 b.lo, .int .i64 b.hi], .int .i64 x, .int .i64 y] w fun e w' => e = .returned (.bool true) ∧ Below w.heap.size w w' := by
  obtain ⟨k1, k2, k3, k4, k5, k6, k7, k8, k9⟩ := below_facts n1 n2 n3
  rcases h with h | ⟨g1, h⟩ | ⟨g1, g2, h⟩ | ⟨g1, g2, g3, h⟩ | ⟨g1, g2, g3, g4, h⟩
  all_goals
    go_enter Try.func8, Try.ntmps8
    go_wp2_with (first
      | (go_at_call 24; refine (belowP a b ha hb _).mono ?_; rintro e w1 ⟨rfl, hb1⟩; obtain ⟨hcc1, hff1⟩ := bcell hb1; have hs1 := hb1.size; (try simp at hs1); have l0_1 : w.heap.size < w1.heap.size := (by omega); have l1_1 : w.heap.size + 1 < w1.heap.size := (by omega))
      | (go_at_call 13; refine (fixedL _).mono ?_; rintro e w2 ⟨rfl, hb2⟩; obtain ⟨hcc2, hff2⟩ := bcell hb2; have hs2 := hb2.size; (try simp at hs2); have l0_2 : w.heap.size < w2.heap.size := (by omega); have l1_2 : w.heap.size + 1 < w2.heap.size := (by omega); have l2_2 : w1.heap.size < w2.heap.size := (by omega); have l3_2 : w1.heap.size + 1 < w2.heap.size := (by omega)))
    go_ret
    refine ⟨by simp, ?_⟩
    go_light
    exact (by repeat (first | exact Below.refl _ _ | apply Below.drew | apply below_alloc | refine Below.setCell ?_ (by dsimp only; omega) _ | refine below_step ?_ hb2 | refine below_step ?_ hb1))


theorem spanKeepsW (a b : Sp) (ha : a.Wf) (hb : b.Wf) (x y : Int) (w : World) : Calls Try.prog 8 #[.agg #[.int .i64 a.lo, .int .i64 a.hi], .agg #[.int .i64 b.lo, .int .i64 b.hi], .int .i64 x, .int .i64 y] w fun e w' => e = .returned (.bool true) ∧ Below w.heap.size w w' := by
  by_cases h : a.lo ≤ x ∧ x ≤ a.hi ∧ b.lo ≤ y ∧ y ≤ b.hi ∧ x < y
  · obtain ⟨h1, h2, h3, h4, h5⟩ := h
    exact keepsIn a b ha hb x y h1 h2 h3 h4 h5 w
  · by_cases n : a.hi < a.lo ∨ b.hi < b.lo ∨ b.hi ≤ a.lo
    · exact keepsNo a b ha hb x y (by omega) n w
    · exact keepsYes a b ha hb x y (by omega) (by omega) (by omega) (by omega) w
end Go.Proofs.Ytdoikgjdjdgnbaa

set_option linter.unusedVariables false
namespace Go.Proofs.Ytdoikgjdjdgnbaa.spanKeeps
open Go.ChangeShapes Go.WideShapes Go.ChangeAt Go.RowKit
set_option maxRecDepth 100000 in
theorem lifted (os : Os) (started : os.Started) (H : Type) (enc : TypeId × Value → H) :
    ReturnsInHanded {} Try.checked os 8 .any (Rows.spanKeepsSpec.pre6 enc Try.prog Try.f8 Rows.spanKeepsRow.domain false) (Rows.spanKeepsSpec.post enc Try.prog Try.f8 false true false false) := by
  refine returnsInHanded_of_change (C := Try.checked) own started (by kernel_rfl) Try.func8
    (ChangeSpec.witness6 (enc := enc) (C := Try.checked) false ⟨#[], #[.agg #[.int .i64 0, .int .i64 0], .agg #[.int .i64 0, .int .i64 0], .int .i64 0, .int .i64 0], []⟩ 8 (by kernel_rfl) (by kernel_rfl) (by kernel_rfl) (by kernel_rfl)) ?_
  intro W base args ds gs before hval0 hW hcnd _
  have hval : ∀ (j : Nat) t v, Try.f8.params[j]? = some t → args[j]? = some v → Value.okWide Try.prog W .any base t v := hval0
  have hW' := hW
  obtain ⟨p, q, hA0, hV, rfl, hfz, hnd⟩ := hW
  have hA : DataW.TrodAll enc Try.prog W 0 (fun _ => true) true Try.f8.params.toList args.toList ds p := hA0
  rw [Try.params8] at hA hval
  obtain ⟨v0, vs0, d0, ds0, p0, q0, hargs, rfl, rfl, h0, r0⟩ := trodAll_cons hA
  obtain ⟨v1, vs1, d1, ds1, p1, q1, rfl, rfl, rfl, h1, r1⟩ := trodAll_cons r0
  obtain ⟨v2, vs2, d2, ds2, p2, q2, rfl, rfl, rfl, h2, r2⟩ := trodAll_cons r1
  obtain ⟨v3, vs3, d3, ds3, p3, q3, rfl, rfl, rfl, h3, r3⟩ := trodAll_cons r2
  obtain ⟨rfl, rfl, rfl⟩ := trodAll_nil r3
  obtain rfl : args = #[v0, v1, v2, v3] := by cases args; simp_all
  obtain ⟨rfl, rfl⟩ := trodVars_none hV
  obtain ⟨s0, rfl, wf0⟩ := open_span (hval 0 23 v0 rfl rfl) h0
  obtain ⟨s1, rfl, wf1⟩ := open_span (hval 1 23 v1 rfl rfl) h1
  obtain ⟨s2, rfl, rfl, rfl, wl2⟩ := open_int Try.underlying2 (hval 2 2 v2 rfl rfl) h2
  have wf2 := bounds_i64 wl2
  obtain ⟨s3, rfl, rfl, rfl, wl3⟩ := open_int Try.underlying2 (hval 3 2 v3 rfl rfl) h3
  have wf3 := bounds_i64 wl3
  clear hA0 hval0
  refine (spanKeepsW s0 s1 wf0 wf1 s2 s3 W).mono fun e W' ⟨he, hb⟩ => ?_
  subst he
  exact ⟨_, rfl, law_post laidOut (by kernel_rfl) (by kernel_rfl) rfl Try.underlying4 hW' rfl rfl rfl hb⟩

theorem holds : Rows.SpanKeepsSaid :=
  OpenClaim.holds_of_wide 8 Try.f8 rfl rfl rfl rfl rfl rfl rfl ⟨rfl, rfl, rfl, rfl, rfl⟩ rfl rfl rfl rfl rfl (by kernel_rfl) Try.func8 (by kernel_rfl)
    (of_decide_eq_true (by kernel_rfl)) (by unfold Func.isWrapper; first | (rw [if_pos (by decide +kernel)]; kernel_rfl) | (rw [if_neg (by decide +kernel)]; exact ⟨rfl, rfl⟩))
    (fun os started H enc _ => lifted os started H enc)
end Go.Proofs.Ytdoikgjdjdgnbaa.spanKeeps

