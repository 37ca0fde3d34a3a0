/-
  SpanEnds: of so many thresholds a span that is widened again and again changes at most so many times and twice more behind its first number; and has all that came. No condition but the form's own reach.
-/
import Derived.Test.YtdoikgjdjdgnbaaOpenS
import Derived.Deep.CondSized

set_option linter.unusedVariables false
namespace Go.Proofs.Ytdoikgjdjdgnbaa.spanEnds
open Go.ChangeShapes Go.WideShapes Go.ChangeAt Go.RowKit
set_option maxRecDepth 100000 in
theorem lifted (os : Os) (started : os.Started) (H : Type) (enc : TypeId × Value → H) :
    ReturnsInHanded {} Try.checked os 10 .any (Rows.spanEndsSpec.pre6 enc Try.prog Try.f10 Rows.spanEndsRow.domain false) (Rows.spanEndsSpec.post enc Try.prog Try.f10 false true false false) := by
  refine returnsInHanded_of_change_sized (C := Try.checked) own started (by kernel_rfl) Try.func10
    (ChangeSpec.witness6 (enc := enc) (C := Try.checked) false ⟨#[], #[.slice none 0 0, .slice none 0 0], []⟩ 8 (by kernel_rfl) (by kernel_rfl) (by kernel_rfl) (by kernel_rfl)) ?_
  intro W base args ds gs before hval0 hW hcnd hsz0 _
  have hsz : (DataW.weightsEach Try.prog (Try.f10.params.toList ++ Rows.spanEndsSpec.plain.varTypes Try.prog) (ds ++ gs)).all (· ≤ reachBytes) = true := hsz0
  have hval : ∀ (j : Nat) t v, Try.f10.params[j]? = some t → args[j]? = some v → Value.okWide Try.prog W .any base t v := hval0
  have hW' := hW
  obtain ⟨p, q, hA0, hV, rfl, hfz, hnd⟩ := hW
  have hA : DataW.TrodAll enc Try.prog W 0 (fun _ => true) true Try.f10.params.toList args.toList ds p := hA0
  rw [Try.params10] at hA hval hsz
  obtain ⟨v0, vs0, d0, ds0, p0, q0, hargs, rfl, rfl, h0, r0⟩ := trodAll_cons hA
  obtain ⟨v1, vs1, d1, ds1, p1, q1, rfl, rfl, rfl, h1, r1⟩ := trodAll_cons r0
  obtain ⟨rfl, rfl, rfl⟩ := trodAll_nil r1
  obtain rfl : args = #[v0, v1] := by cases args; simp_all
  obtain ⟨rfl, rfl⟩ := trodVars_none hV
  obtain ⟨A0, s0, c0, rfl, wf0, hl0, hI0⟩ := open_spans (hval 0 46 v0 rfl rfl) h0 (fun e s he => sized_slice hsz (j := 0) (t := 46) (e := 23) rfl (by rw [he]; rfl) Try.underlying46)
  obtain ⟨A1, s1, c1, rfl, hA1, hl1, hI1⟩ := open_ints_all (hval 1 38 v1 rfl rfl) h1 (fun e s he => sized_slice hsz (j := 1) (t := 38) (e := 2) rfl (by rw [he]; rfl) Try.underlying38)
  clear hA0 hval0
  refine (spanEndsW A0 A1 c0 c1 s0 s1 W wf0 (by omega) (by omega) hI0 hI1).mono fun e W' ⟨he, hb⟩ => ?_
  subst he
  exact ⟨_, rfl, law_post laidOut (by kernel_rfl) (by kernel_rfl) rfl Try.underlying4 hW' rfl rfl rfl hb⟩

theorem holds : Rows.SpanEndsSaid :=
  OpenClaim.holds_of_wide 10 Try.f10 rfl rfl rfl rfl rfl rfl rfl ⟨rfl, rfl, rfl, rfl, rfl⟩ rfl rfl rfl rfl rfl (by kernel_rfl) Try.func10 (by kernel_rfl)
    (of_decide_eq_true (by kernel_rfl)) (by unfold Func.isWrapper; first | (rw [if_pos (by decide +kernel)]; kernel_rfl) | (rw [if_neg (by decide +kernel)]; exact ⟨rfl, rfl⟩))
    (fun os started H enc _ => lifted os started H enc)
end Go.Proofs.Ytdoikgjdjdgnbaa.spanEnds

