/-
  SpanTrue: what the machine makes of a number of the one span and a number of the other one is in what Do tells. No condition.
-/
import Derived.Test.YtdoikgjdjdgnbaaTrueW
import Derived.Test.YtdoikgjdjdgnbaaPlainG
namespace Go.Proofs.Ytdoikgjdjdgnbaa
open Go.RowKit
set_option linter.unusedSimpArgs false
set_option linter.unusedVariables false
attribute [local go_sem ↓] Go.wp_at_zero Go.wp_at_succ

theorem spanTrueW (op : Int) (a b : Sp) (ha : a.Wf) (hb : b.Wf) (x y : Int) (w : World) : Calls Try.prog 7 #[.int .i64 op, .agg #[.int .i64 a.lo, .int .i64 a.hi], .agg #[.int .i64 b.lo, .int .i64 b.hi], .int .i64 x, .int .i64 y] w fun e w' => e = .returned (.bool true) ∧ Below w.heap.size w w' := by
  by_cases h1 : x < a.lo
  · exact trueW_a op a b ha hb x y h1 w
  have h1' : a.lo ≤ x := by omega
  by_cases h2 : a.hi < x
  · exact trueW_b op a b ha hb x y h1' h2 w
  have h2' : x ≤ a.hi := by omega
  by_cases o : op = 10
  · subst o
    obtain ⟨k1, k2, k3⟩ := do_true (op := 10) (y := y) ha hb ⟨h1', h2'⟩ (fun h => absurd rfl h) (by simp [opOk])
    exact trueW_g 10 a b ha hb x y h1' h2' (by decide) (by simp [opOk]) k1 k2 k3 w
  have o' : (op != 10) = true := by simpa using o
  by_cases h3 : y < b.lo
  · exact trueW_c op a b ha hb x y h1' h2' o' h3 w
  have h3' : b.lo ≤ y := by omega
  by_cases h4 : b.hi < y
  · exact trueW_d op a b ha hb x y h1' h2' o' h3' h4 w
  have h4' : y ≤ b.hi := by omega
  cases k : opOk op y
  · exact trueW_e op a b ha hb x y h1' h2' o' h3' h4' k w
  · obtain ⟨k1, k2, k3⟩ := do_true (op := op) (y := y) ha hb ⟨h1', h2'⟩ (fun _ => ⟨h3', h4'⟩) k
    exact trueW_f op a b ha hb x y h1' h2' o' h3' h4' k k1 k2 k3 w
end Go.Proofs.Ytdoikgjdjdgnbaa

set_option linter.unusedVariables false
namespace Go.Proofs.Ytdoikgjdjdgnbaa.spanTrue
open Go.ChangeShapes Go.WideShapes Go.ChangeAt Go.RowKit
set_option maxRecDepth 100000 in
theorem lifted (os : Os) (started : os.Started) (H : Type) (enc : TypeId × Value → H) :
    ReturnsInHanded {} Try.checked os 7 .any (Rows.spanTrueSpec.pre6 enc Try.prog Try.f7 Rows.spanTrueRow.domain false) (Rows.spanTrueSpec.post enc Try.prog Try.f7 false true false false) := by
  refine returnsInHanded_of_change (C := Try.checked) own started (by kernel_rfl) Try.func7
    (ChangeSpec.witness6 (enc := enc) (C := Try.checked) false ⟨#[], #[.int .i64 0, .agg #[.int .i64 0, .int .i64 0], .agg #[.int .i64 0, .int .i64 0], .int .i64 0, .int .i64 0], []⟩ 8 (by kernel_rfl) (by kernel_rfl) (by kernel_rfl) (by kernel_rfl)) ?_
  intro W base args ds gs before hval0 hW hcnd _
  have hval : ∀ (j : Nat) t v, Try.f7.params[j]? = some t → args[j]? = some v → Value.okWide Try.prog W .any base t v := hval0
  have hW' := hW
  obtain ⟨p, q, hA0, hV, rfl, hfz, hnd⟩ := hW
  have hA : DataW.TrodAll enc Try.prog W 0 (fun _ => true) true Try.f7.params.toList args.toList ds p := hA0
  rw [Try.params7] at hA hval
  obtain ⟨v0, vs0, d0, ds0, p0, q0, hargs, rfl, rfl, h0, r0⟩ := trodAll_cons hA
  obtain ⟨v1, vs1, d1, ds1, p1, q1, rfl, rfl, rfl, h1, r1⟩ := trodAll_cons r0
  obtain ⟨v2, vs2, d2, ds2, p2, q2, rfl, rfl, rfl, h2, r2⟩ := trodAll_cons r1
  obtain ⟨v3, vs3, d3, ds3, p3, q3, rfl, rfl, rfl, h3, r3⟩ := trodAll_cons r2
  obtain ⟨v4, vs4, d4, ds4, p4, q4, rfl, rfl, rfl, h4, r4⟩ := trodAll_cons r3
  obtain ⟨rfl, rfl, rfl⟩ := trodAll_nil r4
  obtain rfl : args = #[v0, v1, v2, v3, v4] := by cases args; simp_all
  obtain ⟨rfl, rfl⟩ := trodVars_none hV
  obtain ⟨s0, rfl, rfl, rfl, wl0⟩ := open_int Try.underlying3 (hval 0 3 v0 rfl rfl) h0
  have wf0 := bounds_i64 wl0
  obtain ⟨s1, rfl, wf1⟩ := open_span (hval 1 23 v1 rfl rfl) h1
  obtain ⟨s2, rfl, wf2⟩ := open_span (hval 2 23 v2 rfl rfl) h2
  obtain ⟨s3, rfl, rfl, rfl, wl3⟩ := open_int Try.underlying2 (hval 3 2 v3 rfl rfl) h3
  have wf3 := bounds_i64 wl3
  obtain ⟨s4, rfl, rfl, rfl, wl4⟩ := open_int Try.underlying2 (hval 4 2 v4 rfl rfl) h4
  have wf4 := bounds_i64 wl4
  clear hA0 hval0
  refine (spanTrueW s0 s1 s2 wf1 wf2 s3 s4 W).mono fun e W' ⟨he, hb⟩ => ?_
  subst he
  exact ⟨_, rfl, law_post laidOut (by kernel_rfl) (by kernel_rfl) rfl Try.underlying4 hW' rfl rfl rfl hb⟩

theorem holds : Rows.SpanTrueSaid :=
  OpenClaim.holds_of_wide 7 Try.f7 rfl rfl rfl rfl rfl rfl rfl ⟨rfl, rfl, rfl, rfl, rfl⟩ rfl rfl rfl rfl rfl (by kernel_rfl) Try.func7 (by kernel_rfl)
    (of_decide_eq_true (by kernel_rfl)) (by unfold Func.isWrapper; first | (rw [if_pos (by decide +kernel)]; kernel_rfl) | (rw [if_neg (by decide +kernel)]; exact ⟨rfl, rfl⟩))
    (fun os started H enc _ => lifted os started H enc)
end Go.Proofs.Ytdoikgjdjdgnbaa.spanTrue

