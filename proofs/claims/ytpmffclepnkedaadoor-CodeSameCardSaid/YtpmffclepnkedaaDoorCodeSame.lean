/-
  CodeSame: of every two modules, both ways round, and of one and a copy, Same answers as the document's reference; the calls of fixed answer as they should. The one listed variable, the table of operations, is tied to the program's text.
-/
import Derived.Test.YtpmffclepnkedaaDoorFix
import Derived.Test.YtpmffclepnkedaaDoorLaid
import Derived.Test.YtpmffclepnkedaaDoorSameC
import Derived.Test.YtpmffclepnkedaaDoorKeepB
import Derived.Test.YtpmffclepnkedaaDoorCards
import Derived.Test.YtpmffclepnkedaaDoorTie
import Derived.SevenTiedAt
import Derived.Stop.Joined
namespace Go.Proofs.YtpmffclepnkedaaDoor
open Go.RowKit
set_option linter.unusedSimpArgs false
set_option linter.unusedVariables false
set_option maxHeartbeats 2000000 in
theorem sameL (a b : ModD) (w : World) (ht : TabOk w) (wa : a.Wf) (wb : b.Wf) (na : a.Nils) (ha : ModOk w w.heap.size a) (hb : ModOk w w.heap.size b) : Calls Tryd.prog 7 #[a.val, b.val] w fun e w' => e = .returned (.bool true) ∧ Below w.heap.size w w' := by
  have HA := Lib.hid ha; clear ha
  have HB := Lib.hid hb; clear hb
  have hself : (sameD a b == sameD a b) = true := by simp
  go_enter Tryd.func7, Tryd.ntmps7
  go_wp2
  go_region_held3 (fun w' => Below w.heap.size w w' ∧ w'.cell? ⟨w.heap.size, 0, none⟩ = some (.slice a.ta a.ths.length a.tc) ∧ w'.cell? ⟨w.heap.size, 1, none⟩ = some (.slice a.fa a.funcs.length a.fc) ∧ w'.cell? ⟨w.heap.size + 1, 0, none⟩ = some (.slice b.ta b.ths.length b.tc) ∧ w'.cell? ⟨w.heap.size + 1, 1, none⟩ = some (.slice b.fa b.funcs.length b.fc))
    (first | exact keepB4 (by assumption) (by assumption) | exact keepA4 (by assumption) | (refine ⟨by repeat (first | exact Below.refl _ _ | with_reducible apply Below.drew | with_reducible apply below_alloc), ?_⟩; go_simp))
    (first
      | (go_at_call 9; refine (fixedL _ (tab_S (by assumption) ht)).mono ?_; rintro e w1 ⟨rfl, hb1⟩)
      | (go_at_call 25; have u := hb6; refine (samePC hsm _ wa ho.ok (mod_S (by assumption) HA.out)).mono ?_; rintro e w7 ⟨rfl, hb7⟩)
      | (go_at_call 25; have u := hb3; refine (samePS a b _ wa wb (mod_S (by assumption) HA.out) (mod_S (by assumption) HB.out)).mono ?_; rintro e w4 ⟨rfl, hb4⟩)
      | (go_at_call 25; refine (sameP a b _ wa wb (mod_S (by assumption) HA.out) (mod_S (by assumption) HB.out)).mono ?_; rintro e w2 ⟨rfl, hb2⟩)
      | (go_at_call 21; have u := hb4; refine (sameMR a b _ wa wb (mod_S (by assumption) HA.out) (mod_S (by assumption) HB.out)).mono ?_; rintro e w5 ⟨rfl, hb5⟩)
      | (go_at_call 21; refine (sameMR a b _ wa wb (mod_S (by assumption) HA.out) (mod_S (by assumption) HB.out)).mono ?_; rintro e w3 ⟨rfl, hb3⟩)
      | (go_at_call 19; refine (copyR a _ wa na (mod_S (by assumption) HA.out)).mono ?_; rintro e w6 ⟨⟨c, rfl, hsm, ho⟩, hb6⟩))
  go_wp2
  go_ret
  refine ⟨by simp, ?_⟩
  refine (below_step (below_step (below_step (below_step (below_step (below_step (below_step ?_ hb1) hb2) hb3) hb4) hb5) hb6) hb7)
  repeat (first | exact Below.refl _ _ | with_reducible apply Below.drew | with_reducible apply below_alloc)
end Go.Proofs.YtpmffclepnkedaaDoor
set_option linter.unusedVariables false
namespace Go.Proofs.YtpmffclepnkedaaDoor.codeSame
open Go.ChangeShapes Go.WideShapes Go.ChangeAt Go.RowKit
set_option maxRecDepth 100000 in
theorem lifted (os : Os) (started : os.Started) (H : Type) (enc : TypeId × Value → H) :
    ReturnsInHanded {} Tryd.checked os 7 .any (fun w args => (Rows.codeSameSpec.pre enc Tryd.prog Tryd.f7 [] false w args ∧ laidMetH Tryd.prog laidRows w) ∧ sizedMet enc Tryd.prog Tryd.f7 (OpenSpec.ofChange Rows.codeSameSpec) false w args) (Rows.codeSameSpec.post enc Tryd.prog Tryd.f7 false true false false) := by
  refine returnsInHanded_of_change_and (C := Tryd.checked) (X := fun w _ => laidMetH Tryd.prog laidRows w) (fun _ _ _ hh h => h.of_heap hh) own started (by kernel_rfl) Tryd.func7
    (ChangeSpec.witness_shaped (enc := enc) (C := Tryd.checked) (os := os) (X := fun w _ => laidMetH Tryd.prog laidRows w) false (World.doorLaid Tryd.prog 400 os) #[.agg #[.slice none 0 0, .slice none 0 0], .agg #[.slice none 0 0, .slice none 0 0]] 8 rfl (door_shaped os _) (by kernel_rfl) (by kernel_rfl) (by kernel_rfl) (door_met os _)) ?_
  intro W base args ds gs before hval0 hW hcnd hsz0 hL hholds
  have hsz : (DataW.weightsEach Tryd.prog (Tryd.f7.params.toList ++ Rows.codeSameSpec.plain.varTypes Tryd.prog) (ds ++ gs)).all (· ≤ reachBytes) = true := hsz0
  have ht : TabOk W := tab_of_laid hL
  have hval : ∀ (j : Nat) t v, Tryd.f7.params[j]? = some t → args[j]? = some v → Value.okWide Tryd.prog W .any base t v := hval0
  have hW' := hW
  obtain ⟨p, q, hA0, hV, rfl, hfz, hnd⟩ := hW
  have hA : DataW.TrodAll enc Tryd.prog W 0 (fun _ => true) true Tryd.f7.params.toList args.toList ds p := hA0
  rw [Tryd.params7] at hA hval hsz
  obtain ⟨v0, vs0, d0, ds0, p0, q0, hargs, rfl, rfl, h0, r0⟩ := trodAll_cons hA
  obtain ⟨v1, vs1, d1, ds1, p1, q1, rfl, rfl, rfl, h1, r1⟩ := trodAll_cons r0
  obtain ⟨rfl, rfl, rfl⟩ := trodAll_nil r1
  obtain rfl : args = #[v0, v1] := by cases args; simp_all
  obtain ⟨rfl, rfl⟩ := trodVars_none hV
  obtain ⟨s0, rfl, wm0, hm0, nm0⟩ := open_mod (hval 0 33 v0 rfl rfl) h0 (fit_of_all hsz (j := 0) rfl rfl)
  obtain ⟨s1, rfl, wm1, hm1, nm1⟩ := open_mod (hval 1 33 v1 rfl rfl) h1 (fit_of_all hsz (j := 1) rfl rfl)
  clear hA0 hval0
  refine (sameL s0 s1 W ht wm0 wm1 nm0 hm0 hm1).mono fun e W' ⟨he, hb⟩ => ?_
  subst he
  exact ⟨_, rfl, law_post laidOut (by kernel_rfl) (by kernel_rfl) rfl Tryd.underlying4 hW' rfl rfl rfl hb⟩

theorem said : Rows.CodeSameSaid :=
  OpenClaim.holds_of_wide 7 Tryd.f7 rfl rfl rfl rfl rfl rfl rfl ⟨rfl, rfl, rfl, rfl, rfl⟩ rfl rfl rfl rfl rfl (by kernel_rfl) Tryd.func7 (by kernel_rfl)
    (of_decide_eq_true (by kernel_rfl)) (by unfold Func.isWrapper; first | (rw [if_pos (by decide +kernel)]; kernel_rfl) | (rw [if_neg (by decide +kernel)]; exact ⟨rfl, rfl⟩))
    (fun os started H enc _ => lifted os started H enc)

theorem holds : Rows.CodeSameCardSaid :=
  Claim7.holds_tied_plain_at .later [] [.data] true _ false
    said (fun _ h => by cases h) (by kernel_rfl) (fun _ h => by cases h) codeSame_row_tie rfl ⟨rfl, rfl⟩ (by kernel_rfl) rfl
    (fun f fn hf hfn => by
      obtain rfl : f = 7 := Option.some.inj ((show Tryd.prog.funcNamed "soffit/soffitlaw09.CodeSame" = some 7 by kernel_rfl).symm.trans hf) |>.symm
      obtain rfl : fn = Tryd.f7 := (Option.some.inj (Tryd.func7.symm.trans hfn)).symm
      exact ⟨by kernel_rfl, fun j t ht => by
        rw [Tryd.params7] at ht
        have hm : t ∈ [33, 33] := by simpa using Array.mem_of_getElem? ht
        have hall : ([33, 33].all fun u => !Tryd.prog.wantsStandIn u) = true := by kernel_rfl
        exact (show Tryd.prog.wantsStandIn t = false by simpa using List.all_eq_true.1 hall t hm)⟩)
    (by kernel_rfl)
end Go.Proofs.YtpmffclepnkedaaDoor.codeSame
