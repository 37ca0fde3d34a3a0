/-
  TreeBreaks: of a program that has a form, one statement without its kind is told by its function and number, whatever the functions behind are called; the fault of a program that has none has its place in it; the calls of awake answer as they should. The three listed variables are tied to the program's text.
-/
import Derived.Test.YtdddppmfeoebgaaDoorBreaksL
import Derived.Test.YtdddppmfeoebgaaDoorOpenW
import Derived.Test.YtdddppmfeoebgaaDoorCards
import Derived.Test.YtdddppmfeoebgaaDoorTie
import Derived.Deep.QuietTactic
import Derived.BigQuiet
import Derived.Lib.QuietBelow
import Derived.Deep.CutBlock
import Derived.Laws.StructEq
import Derived.SevenTiedAt
import Derived.Stop.Joined
namespace Go.Proofs.YtdddppmfeoebgaaDoor
open Go.RowKit
set_option linter.unusedSimpArgs false
set_option linter.unusedVariables false
end Go.Proofs.YtdddppmfeoebgaaDoor
set_option linter.unusedVariables false
namespace Go.Proofs.YtdddppmfeoebgaaDoor.treeBreaks
open Go.ChangeShapes Go.WideShapes Go.ChangeAt Go.RowKit
set_option maxRecDepth 100000 in
theorem lifted (os : Os) (started : os.Started) (H : Type) (enc : TypeId × Value → H) :
    ReturnsInHanded {} Tryd.checked os 8 .any (fun w args => (Rows.treeBreaksSpec.pre enc Tryd.prog Tryd.f8 [] false w args ∧ laidMetH Tryd.prog laidRows w) ∧ sizedMet enc Tryd.prog Tryd.f8 (OpenSpec.ofChange Rows.treeBreaksSpec) false w args) (Rows.treeBreaksSpec.post enc Tryd.prog Tryd.f8 false true false false) := by
  refine returnsInHanded_of_change_and (C := Tryd.checked) (X := fun w _ => laidMetH Tryd.prog laidRows w) (fun _ _ _ hh h => h.of_heap hh) own started (by kernel_rfl) Tryd.func8
    (ChangeSpec.witness_shaped (enc := enc) (C := Tryd.checked) (os := os) (X := fun w _ => laidMetH Tryd.prog laidRows w) false (World.doorLaid Tryd.prog 400 os) #[.agg #[.slice none 0 0, .slice none 0 0], .int .i64 0, .int .i64 0] 8 rfl (door_shaped os _) (by kernel_rfl) (by kernel_rfl) (by kernel_rfl) (door_met os _)) ?_
  intro W base args ds gs before hval0 hW hcnd hsz0 hL hholds
  have hsz : (DataW.weightsEach Tryd.prog (Tryd.f8.params.toList ++ Rows.treeBreaksSpec.plain.varTypes Tryd.prog) (ds ++ gs)).all (· ≤ reachBytes) = true := hsz0
  have ht : Pow10 W := tab_of_laid hL
  have hval : ∀ (j : Nat) t v, Tryd.f8.params[j]? = some t → args[j]? = some v → Value.okWide Tryd.prog W .any base t v := hval0
  have hW' := hW
  obtain ⟨p, q, hA0, hV, rfl, hfz, hnd⟩ := hW
  have hA : DataW.TrodAll enc Tryd.prog W 0 (fun _ => true) true Tryd.f8.params.toList args.toList ds p := hA0
  rw [Tryd.params8] at hA hval hsz
  obtain ⟨v0, vs0, d0, ds0, p0, q0, hargs, rfl, rfl, h0, r0⟩ := trodAll_cons hA
  obtain ⟨v1, vs1, d1, ds1, p1, q1, rfl, rfl, rfl, h1, r1⟩ := trodAll_cons r0
  obtain ⟨v2, vs2, d2, ds2, p2, q2, rfl, rfl, rfl, h2, r2⟩ := trodAll_cons r1
  obtain ⟨rfl, rfl, rfl⟩ := trodAll_nil r2
  obtain rfl : args = #[v0, v1, v2] := by cases args; simp_all
  obtain ⟨rfl, rfl⟩ := trodVars_none hV
  obtain ⟨s0, wa0, fa0, wc0, fc0, rfl, hp0, lw0, lf0, mw0, mf0⟩ := open_prog (hval 0 26 v0 rfl rfl) h0 (fit_of_all hsz (j := 0) rfl rfl)
  obtain ⟨s1, rfl, rfl, rfl, wl1⟩ := open_int Tryd.underlying3 (hval 1 3 v1 rfl rfl) h1
  have wf1 := in64_of_wf wl1
  obtain ⟨s2, rfl, rfl, rfl, wl2⟩ := open_int Tryd.underlying3 (hval 2 3 v2 rfl rfl) h2
  have wf2 := in64_of_wf wl2
  clear hA0 hval0
  refine (breaksL s0 wa0 fa0 wc0 fc0 s1 s2 W hp0 ht wf2).mono fun e W' ⟨he, hb⟩ => ?_
  subst he
  exact ⟨_, rfl, law_post laidOut (by kernel_rfl) (by kernel_rfl) rfl Tryd.underlying4 hW' rfl rfl rfl hb⟩

theorem said : Rows.TreeBreaksSaid :=
  OpenClaim.holds_of_wide 8 Tryd.f8 rfl rfl rfl rfl rfl rfl rfl ⟨rfl, rfl, rfl, rfl, rfl⟩ rfl rfl rfl rfl rfl (by kernel_rfl) Tryd.func8 (by kernel_rfl)
    (of_decide_eq_true (by kernel_rfl)) (by unfold Func.isWrapper; first | (rw [if_pos (by decide +kernel)]; kernel_rfl) | (rw [if_neg (by decide +kernel)]; exact ⟨rfl, rfl⟩))
    (fun os started H enc _ => lifted os started H enc)

theorem holds : Rows.TreeBreaksCardSaid :=
  Claim7.holds_tied_plain_at .later [] [.data, .data, .data] true _ false
    said (fun _ h => by cases h) (by kernel_rfl) (fun _ h => by cases h) treeBreaks_row_tie rfl ⟨rfl, rfl⟩ (by kernel_rfl) rfl
    (fun f fn hf hfn => by
      obtain rfl : f = 8 := Option.some.inj ((show Tryd.prog.funcNamed "soffit/soffitlaw02.TreeBreaks" = some 8 by kernel_rfl).symm.trans hf) |>.symm
      obtain rfl : fn = Tryd.f8 := (Option.some.inj (Tryd.func8.symm.trans hfn)).symm
      exact ⟨by kernel_rfl, fun j t ht => by
        rw [Tryd.params8] at ht
        have hm : t ∈ [26, 3, 3] := by simpa using Array.mem_of_getElem? ht
        have hall : ([26, 3, 3].all fun u => !Tryd.prog.wantsStandIn u) = true := by kernel_rfl
        exact (show Tryd.prog.wantsStandIn t = false by simpa using List.all_eq_true.1 hall t hm)⟩)
    (by kernel_rfl)
end Go.Proofs.YtdddppmfeoebgaaDoor.treeBreaks
