/-
  SpanJoins: of all spans, those without numbers, too: All, Has, Join, Meet and Length of the program answer as the reference does. No condition.
-/
import Derived.Test.YtdoikgjdjdgnbaaFixed
import Derived.Test.YtdoikgjdjdgnbaaSpanR
import Derived.Test.YtdoikgjdjdgnbaaKeep
import Derived.Test.YtdoikgjdjdgnbaaOpen

namespace Go.Proofs.Ytdoikgjdjdgnbaa
open Go.RowKit
set_option linter.unusedSimpArgs false
set_option linter.unusedVariables false
attribute [local go_sem ↓] Go.wp_at_zero Go.wp_at_succ

set_option maxRecDepth 100000 in
set_option maxHeartbeats 800000 in
theorem spanJoinsW (a b : Sp) (n : Int) (ha : a.Wf) (hb : b.Wf) (w : World) : Calls Try.prog 3 #[.agg #[.int .i64 a.lo, .int .i64 a.hi], .agg #[.int .i64 b.lo, .int .i64 b.hi], .int .i64 n] w fun e w' => e = .returned (.bool true) ∧ Below w.heap.size w w' := by
  go_enter Try.func3, Try.ntmps3
  go_wp2_with (first
    | (go_at_call 11; refine (meetP a b _).mono ?_; rintro e w1 ⟨rfl, hb1⟩; obtain ⟨hcc1, hff1⟩ := bcell hb1; have hs1 := hb1.size; (try simp at hs1); have l0_1 : w.heap.size < w1.heap.size := (by omega); have l1_1 : w.heap.size + 1 < w1.heap.size := (by omega))
    | (go_at_call 12; refine (meetR a b _).mono ?_; rintro e w2 ⟨rfl, hb2⟩; obtain ⟨hcc2, hff2⟩ := bcell hb2; have hs2 := hb2.size; (try simp at hs2); have l0_2 : w.heap.size < w2.heap.size := (by omega); have l1_2 : w.heap.size + 1 < w2.heap.size := (by omega); have l2_2 : w1.heap.size < w2.heap.size := (by omega)))
  go_region_held3 (fun w' => w'.cell? ⟨w.heap.size, 0, none⟩ = some (.int .i64 a.lo) ∧ w'.cell? ⟨w.heap.size, 1, none⟩ = some (.int .i64 a.hi) ∧ w'.cell? ⟨w.heap.size + 1, 0, none⟩ = some (.int .i64 b.lo) ∧ w'.cell? ⟨w.heap.size + 1, 1, none⟩ = some (.int .i64 b.hi) ∧ w'.cell? ⟨w1.heap.size, 0, none⟩ = some (.int .i64 (a.meet b).lo) ∧ w'.cell? ⟨w1.heap.size, 1, none⟩ = some (.int .i64 (a.meet b).hi) ∧ w'.cell? ⟨w2.heap.size, 0, none⟩ = some (.int .i64 (a.meet b).lo) ∧ w'.cell? ⟨w2.heap.size, 1, none⟩ = some (.int .i64 (a.meet b).hi))
    (first | exact keep8 (by assumption) (by assumption) | go_simp)
    (first
      | (go_at_call 13; refine (fixedL _).mono ?_; rintro e w3 ⟨rfl, hb3⟩)
      | (go_at_call 14; refine (allP _).mono ?_; rintro e w4 ⟨rfl, hb4⟩)
      | (go_at_call 15; refine (allR _).mono ?_; rintro e w5 ⟨rfl, hb5⟩)
      | (go_at_call 16; refine (hasP a n _).mono ?_; rintro e w6 ⟨rfl, hb6⟩)
      | (go_at_call 17; refine (hasR a n _).mono ?_; rintro e w7 ⟨rfl, hb7⟩)
      | (go_at_call 18; refine (joinP a b _).mono ?_; rintro e w8 ⟨rfl, hb8⟩)
      | (go_at_call 19; refine (joinR a b _).mono ?_; rintro e w9 ⟨rfl, hb9⟩)
      | (go_at_call 20; refine (lengthP a b ha hb _).mono ?_; rintro e w10 ⟨rfl, hb10⟩)
      | (go_at_call 21; refine (lengthR a b ha hb _).mono ?_; rintro e w11 ⟨rfl, hb11⟩))
  go_wp2
  go_ret
  refine ⟨by simp, ?_⟩
  go_light
  exact (by repeat (first | exact Below.refl _ _ | apply Below.drew | apply below_alloc | refine Below.setCell ?_ (by dsimp only; omega) _ | refine below_step ?_ hb11 | refine below_step ?_ hb10 | refine below_step ?_ hb9 | refine below_step ?_ hb8 | refine below_step ?_ hb7 | refine below_step ?_ hb6 | refine below_step ?_ hb5 | refine below_step ?_ hb4 | refine below_step ?_ hb3 | refine below_step ?_ hb2 | refine below_step ?_ hb1))
end Go.Proofs.Ytdoikgjdjdgnbaa

set_option linter.unusedVariables false
namespace Go.Proofs.Ytdoikgjdjdgnbaa.spanJoins
open Go.ChangeShapes Go.WideShapes Go.ChangeAt Go.RowKit
set_option maxRecDepth 100000 in
theorem lifted (os : Os) (started : os.Started) (H : Type) (enc : TypeId × Value → H) :
    ReturnsInHanded {} Try.checked os 3 .any (Rows.spanJoinsSpec.pre6 enc Try.prog Try.f3 Rows.spanJoinsRow.domain false) (Rows.spanJoinsSpec.post enc Try.prog Try.f3 false true false false) := by
  refine returnsInHanded_of_change (C := Try.checked) own started (by kernel_rfl) Try.func3
    (ChangeSpec.witness6 (enc := enc) (C := Try.checked) false ⟨#[], #[.agg #[.int .i64 0, .int .i64 0], .agg #[.int .i64 0, .int .i64 0], .int .i64 0], []⟩ 8 (by kernel_rfl) (by kernel_rfl) (by kernel_rfl) (by kernel_rfl)) ?_
  intro W base args ds gs before hval0 hW hcnd _
  have hval : ∀ (j : Nat) t v, Try.f3.params[j]? = some t → args[j]? = some v → Value.okWide Try.prog W .any base t v := hval0
  have hW' := hW
  obtain ⟨p, q, hA0, hV, rfl, hfz, hnd⟩ := hW
  have hA : DataW.TrodAll enc Try.prog W 0 (fun _ => true) true Try.f3.params.toList args.toList ds p := hA0
  rw [Try.params3] at hA hval
  obtain ⟨v0, vs0, d0, ds0, p0, q0, hargs, rfl, rfl, h0, r0⟩ := trodAll_cons hA
  obtain ⟨v1, vs1, d1, ds1, p1, q1, rfl, rfl, rfl, h1, r1⟩ := trodAll_cons r0
  obtain ⟨v2, vs2, d2, ds2, p2, q2, rfl, rfl, rfl, h2, r2⟩ := trodAll_cons r1
  obtain ⟨rfl, rfl, rfl⟩ := trodAll_nil r2
  obtain rfl : args = #[v0, v1, v2] := by cases args; simp_all
  obtain ⟨rfl, rfl⟩ := trodVars_none hV
  obtain ⟨s0, rfl, wf0⟩ := open_span (hval 0 23 v0 rfl rfl) h0
  obtain ⟨s1, rfl, wf1⟩ := open_span (hval 1 23 v1 rfl rfl) h1
  obtain ⟨s2, rfl, rfl, rfl, wl2⟩ := open_int Try.underlying2 (hval 2 2 v2 rfl rfl) h2
  have wf2 := bounds_i64 wl2
  clear hA0 hval0
  refine (spanJoinsW s0 s1 s2 wf0 wf1 W).mono fun e W' ⟨he, hb⟩ => ?_
  subst he
  exact ⟨_, rfl, law_post laidOut (by kernel_rfl) (by kernel_rfl) rfl Try.underlying4 hW' rfl rfl rfl hb⟩

theorem holds : Rows.SpanJoinsSaid :=
  OpenClaim.holds_of_wide 3 Try.f3 rfl rfl rfl rfl rfl rfl rfl ⟨rfl, rfl, rfl, rfl, rfl⟩ rfl rfl rfl rfl rfl (by kernel_rfl) Try.func3 (by kernel_rfl)
    (of_decide_eq_true (by kernel_rfl)) (by unfold Func.isWrapper; first | (rw [if_pos (by decide +kernel)]; kernel_rfl) | (rw [if_neg (by decide +kernel)]; exact ⟨rfl, rfl⟩))
    (fun os started H enc _ => lifted os started H enc)
end Go.Proofs.Ytdoikgjdjdgnbaa.spanJoins

