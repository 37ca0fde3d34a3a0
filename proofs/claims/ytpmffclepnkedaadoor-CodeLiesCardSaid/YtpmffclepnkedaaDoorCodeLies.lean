/-
  CodeLies: of a module that May takes all registers and targets are there, no end is fallen over, and no two names are the same; the calls of fixed answer as they should. The one listed variable, the table of operations, is tied to the program's text.
-/
import Derived.Test.YtpmffclepnkedaaDoorLiesW
import Derived.Test.YtpmffclepnkedaaDoorLaid
import Derived.Test.YtpmffclepnkedaaDoorCards
import Derived.Test.YtpmffclepnkedaaDoorTie
import Derived.SevenTiedAt
import Derived.Stop.Joined
namespace Go.Proofs.YtpmffclepnkedaaDoor
open Go.RowKit
set_option linter.unusedSimpArgs false
set_option linter.unusedVariables false
open Go.Shelf
attribute [local go_sem] Oper.semAt_some
set_option maxRecDepth 100000 in
set_option maxHeartbeats 2000000 in
theorem liesNo (m : ModD) (w : World) (ht : TabOk w) (wm : m.Wf) (hm : ModOk w w.heap.size m) (h : mayD m ≠ ⟨0, 0, 0⟩) : Calls Tryd.prog 8 #[m.val] w fun e w' => e = .returned (.bool true) ∧ Below w.heap.size w w' := by
  have he := may_e h
  have u0 : ((mayD m).e == 0) = false := by simpa using he
  have HM := Lib.hid hm; clear hm
  have H0 := LM.start w m
  refine (callsIn_wide (n := 9)).1 ?_
  refine callsIn_of_wp_marks Tryd.func8 rfl trivial ?_ rfl
  simp only [Tryd.ntmps8, List.size_toArray, List.length_cons, List.length_nil, Nat.reduceAdd, Nat.reduceSub, Array.replicate_succ, Array.replicate_zero, List.push_toArray, List.append_toArray, List.nil_append, List.cons_append]
  gi_wp2_with (first
    | (refine ⟨trivial, ?_⟩; gi_at_call 9; refine (callsIn_wide.2 (fixedL _ (H0.tab ht))).mono ?_; rintro e w1 ⟨rfl, hb1⟩; have H1 := H0.go hb1; obtain ⟨d1, d2, d3, d4⟩ := H1.cells; have l1 := H1.bm.lt; have l2 := H1.br.lt)
    | (refine ⟨trivial, ?_⟩; gi_at_call 20; refine (callsIn_wide.2 (mayP m _ wm (H1.ok HM.out) (H1.tab ht))).mono ?_; rintro e w2 ⟨rfl, hb2⟩; have H2 := H1.go hb2; obtain ⟨e1, e2, e3, e4⟩ := H2.cells; have l3 := H2.bm.lt; have l4 := H2.br.lt))
  refine leaves_marks (g := w.heap.size + 1) (B := w.heap.size + 2) (by omega) (by omega) ?_ [] _ trivial (H2.below.setCell (by simp) _) (H2.br.put 0 (.bool true))
  intro W' hb hw
  have c0 : W'.cell? ⟨w.heap.size + 1, 0, none⟩ = some (.bool true) := hw.cell 0
  refine ⟨.bool true, ?_, rfl, hb⟩
  simp [results, Tryd.f8, go_sem, c0]

theorem liesL (m : ModD) (w : World) (ht : TabOk w) (wm : m.Wf) (hm : ModOk w w.heap.size m) : Calls Tryd.prog 8 #[m.val] w fun e w' => e = .returned (.bool true) ∧ Below w.heap.size w w' := by
  by_cases h : mayD m = ⟨0, 0, 0⟩
  · exact liesYes m w ht wm hm h
  · exact liesNo m w ht wm hm h
end Go.Proofs.YtpmffclepnkedaaDoor
set_option linter.unusedVariables false
namespace Go.Proofs.YtpmffclepnkedaaDoor.codeLies
open Go.ChangeShapes Go.WideShapes Go.ChangeAt Go.RowKit
set_option maxRecDepth 100000 in
theorem lifted (os : Os) (started : os.Started) (H : Type) (enc : TypeId × Value → H) :
    ReturnsInHanded {} Tryd.checked os 8 .any (fun w args => (Rows.codeLiesSpec.pre enc Tryd.prog Tryd.f8 [] false w args ∧ laidMetH Tryd.prog laidRows w) ∧ sizedMet enc Tryd.prog Tryd.f8 (OpenSpec.ofChange Rows.codeLiesSpec) false w args) (Rows.codeLiesSpec.post enc Tryd.prog Tryd.f8 false true false false) := by
  refine returnsInHanded_of_change_and (C := Tryd.checked) (X := fun w _ => laidMetH Tryd.prog laidRows w) (fun _ _ _ hh h => h.of_heap hh) own started (by kernel_rfl) Tryd.func8
    (ChangeSpec.witness_shaped (enc := enc) (C := Tryd.checked) (os := os) (X := fun w _ => laidMetH Tryd.prog laidRows w) false (World.doorLaid Tryd.prog 400 os) #[.agg #[.slice none 0 0, .slice none 0 0]] 8 rfl (door_shaped os _) (by kernel_rfl) (by kernel_rfl) (by kernel_rfl) (door_met os _)) ?_
  intro W base args ds gs before hval0 hW hcnd hsz0 hL hholds
  have hsz : (DataW.weightsEach Tryd.prog (Tryd.f8.params.toList ++ Rows.codeLiesSpec.plain.varTypes Tryd.prog) (ds ++ gs)).all (· ≤ reachBytes) = true := hsz0
  have ht : TabOk W := tab_of_laid hL
  have hval : ∀ (j : Nat) t v, Tryd.f8.params[j]? = some t → args[j]? = some v → Value.okWide Tryd.prog W .any base t v := hval0
  have hW' := hW
  obtain ⟨p, q, hA0, hV, rfl, hfz, hnd⟩ := hW
  have hA : DataW.TrodAll enc Tryd.prog W 0 (fun _ => true) true Tryd.f8.params.toList args.toList ds p := hA0
  rw [Tryd.params8] at hA hval hsz
  obtain ⟨v0, vs0, d0, ds0, p0, q0, hargs, rfl, rfl, h0, r0⟩ := trodAll_cons hA
  obtain ⟨rfl, rfl, rfl⟩ := trodAll_nil r0
  obtain rfl : args = #[v0] := by cases args; simp_all
  obtain ⟨rfl, rfl⟩ := trodVars_none hV
  obtain ⟨s0, rfl, wm0, hm0, nm0⟩ := open_mod (hval 0 33 v0 rfl rfl) h0 (fit_of_all hsz (j := 0) rfl rfl)
  clear hA0 hval0
  refine (liesL s0 W ht wm0 hm0).mono fun e W' ⟨he, hb⟩ => ?_
  subst he
  exact ⟨_, rfl, law_post laidOut (by kernel_rfl) (by kernel_rfl) rfl Tryd.underlying4 hW' rfl rfl rfl hb⟩

theorem said : Rows.CodeLiesSaid :=
  OpenClaim.holds_of_wide 8 Tryd.f8 rfl rfl rfl rfl rfl rfl rfl ⟨rfl, rfl, rfl, rfl, rfl⟩ rfl rfl rfl rfl rfl (by kernel_rfl) Tryd.func8 (by kernel_rfl)
    (of_decide_eq_true (by kernel_rfl)) (by unfold Func.isWrapper; first | (rw [if_pos (by decide +kernel)]; kernel_rfl) | (rw [if_neg (by decide +kernel)]; exact ⟨rfl, rfl⟩))
    (fun os started H enc _ => lifted os started H enc)

theorem holds : Rows.CodeLiesCardSaid :=
  Claim7.holds_tied_plain_at .later [] [.data] true _ false
    said (fun _ h => by cases h) (by kernel_rfl) (fun _ h => by cases h) codeLies_row_tie rfl ⟨rfl, rfl⟩ (by kernel_rfl) rfl
    (fun f fn hf hfn => by
      obtain rfl : f = 8 := Option.some.inj ((show Tryd.prog.funcNamed "soffit/soffitlaw09.CodeLies" = some 8 by kernel_rfl).symm.trans hf) |>.symm
      obtain rfl : fn = Tryd.f8 := (Option.some.inj (Tryd.func8.symm.trans hfn)).symm
      exact ⟨by kernel_rfl, fun j t ht => by
        rw [Tryd.params8] at ht
        have hm : t ∈ [33] := by simpa using Array.mem_of_getElem? ht
        have hall : ([33].all fun u => !Tryd.prog.wantsStandIn u) = true := by kernel_rfl
        exact (show Tryd.prog.wantsStandIn t = false by simpa using List.all_eq_true.1 hall t hm)⟩)
    (by kernel_rfl)
end Go.Proofs.YtpmffclepnkedaaDoor.codeLies
