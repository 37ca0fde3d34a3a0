/-
  CodeFinds: in every module every name is found by package code where the document's reference finds it; the calls of fixed answer as they should. The one listed variable, the table of operations, is tied to the program's text.
-/
import Derived.Test.YtpmffclepnkedaaDoorFix
import Derived.Test.YtpmffclepnkedaaDoorLaid
import Derived.Test.YtpmffclepnkedaaDoorOpenM
import Derived.Test.YtpmffclepnkedaaDoorKeepB
import Derived.Test.YtpmffclepnkedaaDoorCards
import Derived.Test.YtpmffclepnkedaaDoorTie
import Derived.SevenTiedAt
import Derived.Stop.Joined
namespace Go.Proofs.YtpmffclepnkedaaDoor
open Go.RowKit
set_option linter.unusedSimpArgs false
set_option linter.unusedVariables false
set_option maxHeartbeats 1000000 in
theorem findsL (m : ModD) (s : ByteArray) (w : World) (ht : TabOk w) (wm : m.Wf) (hm : ModOk w w.heap.size m) : Calls Tryd.prog 6 #[m.val, .string s] w fun e w' => e = .returned (.bool true) ∧ Below w.heap.size w w' := by
  have hfl := wm.flen
  have HM := Lib.hid hm; clear hm
  go_enter Tryd.func6, Tryd.ntmps6
  go_wp2
  go_region_held3 (fun w' => Below w.heap.size w w' ∧ w'.cell? ⟨w.heap.size, 0, none⟩ = some (.slice m.ta m.ths.length m.tc) ∧ w'.cell? ⟨w.heap.size, 1, none⟩ = some (.slice m.fa m.funcs.length m.fc))
    (first | exact keepB2 (by assumption) (by assumption) | exact keepA2 (by assumption) | (refine ⟨by repeat (first | exact Below.refl _ _ | with_reducible apply Below.drew | with_reducible apply below_alloc), ?_⟩; go_simp))
    (first
      | (go_at_call 9; refine (fixedL _ (tab_S (by assumption) ht)).mono ?_; rintro e w1 ⟨rfl, hb1⟩)
      | (go_at_call 23; refine (findP m s _ (by omega) (mod_S (by assumption) HM.out)).mono ?_; rintro e w2 ⟨rfl, hb2⟩)
      | (go_at_call 24; refine (findR m s _ (by omega) (mod_S (by assumption) HM.out)).mono ?_; rintro e w3 ⟨rfl, hb3⟩))
  go_wp2
  go_ret
  refine ⟨by simp, ?_⟩
  refine (below_step (below_step (below_step ?_ hb1) hb2) hb3)
  repeat (first | exact Below.refl _ _ | with_reducible apply Below.drew | with_reducible apply below_alloc)
end Go.Proofs.YtpmffclepnkedaaDoor
set_option linter.unusedVariables false
namespace Go.Proofs.YtpmffclepnkedaaDoor.codeFinds
open Go.ChangeShapes Go.WideShapes Go.ChangeAt Go.RowKit
set_option maxRecDepth 100000 in
theorem lifted (os : Os) (started : os.Started) (H : Type) (enc : TypeId × Value → H) :
    ReturnsInHanded {} Tryd.checked os 6 .any (fun w args => (Rows.codeFindsSpec.pre enc Tryd.prog Tryd.f6 [] false w args ∧ laidMetH Tryd.prog laidRows w) ∧ sizedMet enc Tryd.prog Tryd.f6 (OpenSpec.ofChange Rows.codeFindsSpec) false w args) (Rows.codeFindsSpec.post enc Tryd.prog Tryd.f6 false true false false) := by
  refine returnsInHanded_of_change_and (C := Tryd.checked) (X := fun w _ => laidMetH Tryd.prog laidRows w) (fun _ _ _ hh h => h.of_heap hh) own started (by kernel_rfl) Tryd.func6
    (ChangeSpec.witness_shaped (enc := enc) (C := Tryd.checked) (os := os) (X := fun w _ => laidMetH Tryd.prog laidRows w) false (World.doorLaid Tryd.prog 400 os) #[.agg #[.slice none 0 0, .slice none 0 0], .string .empty] 8 rfl (door_shaped os _) (by kernel_rfl) (by kernel_rfl) (by kernel_rfl) (door_met os _)) ?_
  intro W base args ds gs before hval0 hW hcnd hsz0 hL hholds
  have hsz : (DataW.weightsEach Tryd.prog (Tryd.f6.params.toList ++ Rows.codeFindsSpec.plain.varTypes Tryd.prog) (ds ++ gs)).all (· ≤ reachBytes) = true := hsz0
  have ht : TabOk W := tab_of_laid hL
  have hval : ∀ (j : Nat) t v, Tryd.f6.params[j]? = some t → args[j]? = some v → Value.okWide Tryd.prog W .any base t v := hval0
  have hW' := hW
  obtain ⟨p, q, hA0, hV, rfl, hfz, hnd⟩ := hW
  have hA : DataW.TrodAll enc Tryd.prog W 0 (fun _ => true) true Tryd.f6.params.toList args.toList ds p := hA0
  rw [Tryd.params6] at hA hval hsz
  obtain ⟨v0, vs0, d0, ds0, p0, q0, hargs, rfl, rfl, h0, r0⟩ := trodAll_cons hA
  obtain ⟨v1, vs1, d1, ds1, p1, q1, rfl, rfl, rfl, h1, r1⟩ := trodAll_cons r0
  obtain ⟨rfl, rfl, rfl⟩ := trodAll_nil r1
  obtain rfl : args = #[v0, v1] := by cases args; simp_all
  obtain ⟨rfl, rfl⟩ := trodVars_none hV
  obtain ⟨s0, rfl, wm0, hm0⟩ := open_mod (hval 0 33 v0 rfl rfl) h0 (fit_of_all hsz (j := 0) rfl rfl)
  obtain ⟨s1, rfl, rfl, rfl, wl1⟩ := Go.ChangeMaps.open_string Tryd.underlying9 (hval 1 9 v1 rfl rfl) h1
  clear hA0 hval0
  refine (findsL s0 s1 W ht wm0 hm0).mono fun e W' ⟨he, hb⟩ => ?_
  subst he
  exact ⟨_, rfl, law_post laidOut (by kernel_rfl) (by kernel_rfl) rfl Tryd.underlying4 hW' rfl rfl rfl hb⟩

theorem said : Rows.CodeFindsSaid :=
  OpenClaim.holds_of_wide 6 Tryd.f6 rfl rfl rfl rfl rfl rfl rfl ⟨rfl, rfl, rfl, rfl, rfl⟩ rfl rfl rfl rfl rfl (by kernel_rfl) Tryd.func6 (by kernel_rfl)
    (of_decide_eq_true (by kernel_rfl)) (by unfold Func.isWrapper; first | (rw [if_pos (by decide +kernel)]; kernel_rfl) | (rw [if_neg (by decide +kernel)]; exact ⟨rfl, rfl⟩))
    (fun os started H enc _ => lifted os started H enc)

theorem holds : Rows.CodeFindsCardSaid :=
  Claim7.holds_tied_plain_at .later [] [.data] true _ false
    said (fun _ h => by cases h) (by kernel_rfl) (fun _ h => by cases h) codeFinds_row_tie rfl ⟨rfl, rfl⟩ (by kernel_rfl) rfl
    (fun f fn hf hfn => by
      obtain rfl : f = 6 := Option.some.inj ((show Tryd.prog.funcNamed "soffit/soffitlaw09.CodeFinds" = some 6 by kernel_rfl).symm.trans hf) |>.symm
      obtain rfl : fn = Tryd.f6 := (Option.some.inj (Tryd.func6.symm.trans hfn)).symm
      exact ⟨by kernel_rfl, fun j t ht => by
        rw [Tryd.params6] at ht
        have hm : t ∈ [33, 9] := by simpa using Array.mem_of_getElem? ht
        have hall : ([33, 9].all fun u => !Tryd.prog.wantsStandIn u) = true := by kernel_rfl
        exact (show Tryd.prog.wantsStandIn t = false by simpa using List.all_eq_true.1 hall t hm)⟩)
    (by kernel_rfl)
end Go.Proofs.YtpmffclepnkedaaDoor.codeFinds
