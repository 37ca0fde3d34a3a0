/-
  SpanGrows: of spans that have more Do, Join and Meet tell spans that have no less. No condition.
-/
import Derived.Test.YtdoikgjdjdgnbaaGrowW
import Derived.Test.YtdoikgjdjdgnbaaPlainG
namespace Go.Proofs.Ytdoikgjdjdgnbaa
open Go.RowKit
set_option linter.unusedSimpArgs false
set_option linter.unusedVariables false
attribute [local go_sem ↓] Go.wp_at_zero Go.wp_at_succ

theorem spanGrowsW (op : Int) (a b more yet : Sp) (ha : a.Wf) (hb : b.Wf) (hm : more.Wf) (hy : yet.Wf) (w : World) : Calls Try.prog 9 #[.int .i64 op, .agg #[.int .i64 a.lo, .int .i64 a.hi], .agg #[.int .i64 b.lo, .int .i64 b.hi], .agg #[.int .i64 more.lo, .int .i64 more.hi], .agg #[.int .i64 yet.lo, .int .i64 yet.hi]] w fun e w' => e = .returned (.bool true) ∧ Below w.heap.size w w' := by
  have hc := join_Wf ha hm
  have hd := join_Wf hb hy
  have j1 := join_grows (join_within1 a more) (join_within1 b yet)
  have j2 := join_within1 a b
  have j3 := join_within2 a b
  cases k : doOk op a b
  · cases m : a.meetOk b
    · exact growsW_nn op a b more yet ha hb hc hd j1 j2 j3 k m w
    · obtain ⟨m2, m3⟩ := meet_grows (join_within1 a more) (join_within1 b yet) m
      exact growsW_ny op a b more yet ha hb hc hd j1 j2 j3 k m m2 m3 w
  · obtain ⟨k2, k3⟩ := do_grows hc hd (join_within1 a more) (join_within1 b yet) k
    cases m : a.meetOk b
    · exact growsW_yn op a b more yet ha hb hc hd j1 j2 j3 k k2 k3 m w
    · obtain ⟨m2, m3⟩ := meet_grows (join_within1 a more) (join_within1 b yet) m
      exact growsW_yy op a b more yet ha hb hc hd j1 j2 j3 k k2 k3 m m2 m3 w
end Go.Proofs.Ytdoikgjdjdgnbaa

set_option linter.unusedVariables false
namespace Go.Proofs.Ytdoikgjdjdgnbaa.spanGrows
open Go.ChangeShapes Go.WideShapes Go.ChangeAt Go.RowKit
set_option maxRecDepth 100000 in
theorem lifted (os : Os) (started : os.Started) (H : Type) (enc : TypeId × Value → H) :
    ReturnsInHanded {} Try.checked os 9 .any (Rows.spanGrowsSpec.pre6 enc Try.prog Try.f9 Rows.spanGrowsRow.domain false) (Rows.spanGrowsSpec.post enc Try.prog Try.f9 false true false false) := by
  refine returnsInHanded_of_change (C := Try.checked) own started (by kernel_rfl) Try.func9
    (ChangeSpec.witness6 (enc := enc) (C := Try.checked) false ⟨#[], #[.int .i64 0, .agg #[.int .i64 0, .int .i64 0], .agg #[.int .i64 0, .int .i64 0], .agg #[.int .i64 0, .int .i64 0], .agg #[.int .i64 0, .int .i64 0]], []⟩ 8 (by kernel_rfl) (by kernel_rfl) (by kernel_rfl) (by kernel_rfl)) ?_
  intro W base args ds gs before hval0 hW hcnd _
  have hval : ∀ (j : Nat) t v, Try.f9.params[j]? = some t → args[j]? = some v → Value.okWide Try.prog W .any base t v := hval0
  have hW' := hW
  obtain ⟨p, q, hA0, hV, rfl, hfz, hnd⟩ := hW
  have hA : DataW.TrodAll enc Try.prog W 0 (fun _ => true) true Try.f9.params.toList args.toList ds p := hA0
  rw [Try.params9] at hA hval
  obtain ⟨v0, vs0, d0, ds0, p0, q0, hargs, rfl, rfl, h0, r0⟩ := trodAll_cons hA
  obtain ⟨v1, vs1, d1, ds1, p1, q1, rfl, rfl, rfl, h1, r1⟩ := trodAll_cons r0
  obtain ⟨v2, vs2, d2, ds2, p2, q2, rfl, rfl, rfl, h2, r2⟩ := trodAll_cons r1
  obtain ⟨v3, vs3, d3, ds3, p3, q3, rfl, rfl, rfl, h3, r3⟩ := trodAll_cons r2
  obtain ⟨v4, vs4, d4, ds4, p4, q4, rfl, rfl, rfl, h4, r4⟩ := trodAll_cons r3
  obtain ⟨rfl, rfl, rfl⟩ := trodAll_nil r4
  obtain rfl : args = #[v0, v1, v2, v3, v4] := by cases args; simp_all
  obtain ⟨rfl, rfl⟩ := trodVars_none hV
  obtain ⟨s0, rfl, rfl, rfl, wl0⟩ := open_int Try.underlying3 (hval 0 3 v0 rfl rfl) h0
  have wf0 := bounds_i64 wl0
  obtain ⟨s1, rfl, wf1⟩ := open_span (hval 1 23 v1 rfl rfl) h1
  obtain ⟨s2, rfl, wf2⟩ := open_span (hval 2 23 v2 rfl rfl) h2
  obtain ⟨s3, rfl, wf3⟩ := open_span (hval 3 23 v3 rfl rfl) h3
  obtain ⟨s4, rfl, wf4⟩ := open_span (hval 4 23 v4 rfl rfl) h4
  clear hA0 hval0
  refine (spanGrowsW s0 s1 s2 s3 s4 wf1 wf2 wf3 wf4 W).mono fun e W' ⟨he, hb⟩ => ?_
  subst he
  exact ⟨_, rfl, law_post laidOut (by kernel_rfl) (by kernel_rfl) rfl Try.underlying4 hW' rfl rfl rfl hb⟩

theorem holds : Rows.SpanGrowsSaid :=
  OpenClaim.holds_of_wide 9 Try.f9 rfl rfl rfl rfl rfl rfl rfl ⟨rfl, rfl, rfl, rfl, rfl⟩ rfl rfl rfl rfl rfl (by kernel_rfl) Try.func9 (by kernel_rfl)
    (of_decide_eq_true (by kernel_rfl)) (by unfold Func.isWrapper; first | (rw [if_pos (by decide +kernel)]; kernel_rfl) | (rw [if_neg (by decide +kernel)]; exact ⟨rfl, rfl⟩))
    (fun os started H enc _ => lifted os started H enc)
end Go.Proofs.Ytdoikgjdjdgnbaa.spanGrows

