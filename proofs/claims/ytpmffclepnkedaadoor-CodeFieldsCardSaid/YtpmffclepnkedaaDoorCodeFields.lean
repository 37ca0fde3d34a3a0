/-
  CodeFields: of every instruction, Writes answers as the document's reference, and Reads tells the registers that it tells, asked whole, as far as one likes, and again; the calls of fixed answer as they should. The one listed variable, the table of operations, is tied to the program's text.
-/
import Derived.Test.YtpmffclepnkedaaDoorFix
import Derived.Test.YtpmffclepnkedaaDoorLaid
import Derived.Test.YtpmffclepnkedaaDoorOpenM
import Derived.Test.YtpmffclepnkedaaDoorKeepB
import Derived.Test.YtpmffclepnkedaaDoorCards
import Derived.Test.YtpmffclepnkedaaDoorTie
import Derived.SevenTiedAt
import Derived.Stop.Joined
namespace Go.Proofs.YtpmffclepnkedaaDoor
open Go.RowKit
set_option linter.unusedSimpArgs false
set_option linter.unusedVariables false
set_option maxHeartbeats 1000000 in
theorem fieldsL (x : InsD) (p stop : Int) (w : World) (ht : TabOk w) : Calls Tryd.prog 4 #[x.val, .int .i64 p, .int .i64 stop] w fun e w' => e = .returned (.bool true) ∧ Below w.heap.size w w' := by
  go_enter Tryd.func4, Tryd.ntmps4
  go_wp2
  go_region_held3 (fun w' => Below w.heap.size w w' ∧ w'.cell? ⟨w.heap.size, 0, none⟩ = some (.int .i64 x.op) ∧ w'.cell? ⟨w.heap.size, 1, none⟩ = some (.int .i64 x.a) ∧ w'.cell? ⟨w.heap.size, 2, none⟩ = some (.int .i64 x.b) ∧ w'.cell? ⟨w.heap.size, 3, none⟩ = some (.int .i64 x.c) ∧ w'.cell? ⟨w.heap.size, 4, none⟩ = some (.int .i64 x.n))
    (first | exact keepB5 (by assumption) (by assumption) | exact keepA5 (by assumption) | (refine ⟨by repeat (first | exact Below.refl _ _ | with_reducible apply Below.drew | with_reducible apply below_alloc), ?_⟩; go_simp))
    (first
      | (go_at_call 9; refine (fixedL _ (tab_S (by assumption) ht)).mono ?_; rintro e w1 ⟨rfl, hb1⟩)
      | (go_at_call 16; refine (writesP x.op x.a x.b x.c x.n _ (tab_S (by assumption) ht)).mono ?_; rintro e w2 ⟨rfl, hb2⟩)
      | (go_at_call 17; refine (writesR x.op x.a x.b x.c x.n _).mono ?_; rintro e w3 ⟨rfl, hb3⟩)
      | (go_at_call 18; have u := hb5; refine (toldL x p (-1) _ (tab_S (by assumption) ht)).mono ?_; rintro e w6 ⟨rfl, hb6⟩)
      | (go_at_call 18; have u := hb4; refine (toldL x p stop _ (tab_S (by assumption) ht)).mono ?_; rintro e w5 ⟨rfl, hb5⟩)
      | (go_at_call 18; refine (toldL x p (-1) _ (tab_S (by assumption) ht)).mono ?_; rintro e w4 ⟨rfl, hb4⟩))
  go_wp2
  go_ret
  refine ⟨by simp, ?_⟩
  refine (below_step (below_step (below_step (below_step (below_step (below_step ?_ hb1) hb2) hb3) hb4) hb5) hb6)
  repeat (first | exact Below.refl _ _ | with_reducible apply Below.drew | with_reducible apply below_alloc)
end Go.Proofs.YtpmffclepnkedaaDoor
set_option linter.unusedVariables false
namespace Go.Proofs.YtpmffclepnkedaaDoor.codeFields
open Go.ChangeShapes Go.WideShapes Go.ChangeAt Go.RowKit
set_option maxRecDepth 100000 in
theorem lifted (os : Os) (started : os.Started) (H : Type) (enc : TypeId × Value → H) :
    ReturnsInHanded {} Tryd.checked os 4 .any (fun w args => (Rows.codeFieldsSpec.pre enc Tryd.prog Tryd.f4 [] false w args ∧ laidMetH Tryd.prog laidRows w) ∧ sizedMet enc Tryd.prog Tryd.f4 (OpenSpec.ofChange Rows.codeFieldsSpec) false w args) (Rows.codeFieldsSpec.post enc Tryd.prog Tryd.f4 false true false false) := by
  refine returnsInHanded_of_change_and (C := Tryd.checked) (X := fun w _ => laidMetH Tryd.prog laidRows w) (fun _ _ _ hh h => h.of_heap hh) own started (by kernel_rfl) Tryd.func4
    (ChangeSpec.witness_shaped (enc := enc) (C := Tryd.checked) (os := os) (X := fun w _ => laidMetH Tryd.prog laidRows w) false (World.doorLaid Tryd.prog 400 os) #[.agg #[.int .i64 0, .int .i64 0, .int .i64 0, .int .i64 0, .int .i64 0], .int .i64 0, .int .i64 0] 8 rfl (door_shaped os _) (by kernel_rfl) (by kernel_rfl) (by kernel_rfl) (door_met os _)) ?_
  intro W base args ds gs before hval0 hW hcnd hsz0 hL hholds
  have hsz : (DataW.weightsEach Tryd.prog (Tryd.f4.params.toList ++ Rows.codeFieldsSpec.plain.varTypes Tryd.prog) (ds ++ gs)).all (· ≤ reachBytes) = true := hsz0
  have ht : TabOk W := tab_of_laid hL
  have hval : ∀ (j : Nat) t v, Tryd.f4.params[j]? = some t → args[j]? = some v → Value.okWide Tryd.prog W .any base t v := hval0
  have hW' := hW
  obtain ⟨p, q, hA0, hV, rfl, hfz, hnd⟩ := hW
  have hA : DataW.TrodAll enc Tryd.prog W 0 (fun _ => true) true Tryd.f4.params.toList args.toList ds p := hA0
  rw [Tryd.params4] at hA hval hsz
  obtain ⟨v0, vs0, d0, ds0, p0, q0, hargs, rfl, rfl, h0, r0⟩ := trodAll_cons hA
  obtain ⟨v1, vs1, d1, ds1, p1, q1, rfl, rfl, rfl, h1, r1⟩ := trodAll_cons r0
  obtain ⟨v2, vs2, d2, ds2, p2, q2, rfl, rfl, rfl, h2, r2⟩ := trodAll_cons r1
  obtain ⟨rfl, rfl, rfl⟩ := trodAll_nil r2
  obtain rfl : args = #[v0, v1, v2] := by cases args; simp_all
  obtain ⟨rfl, rfl⟩ := trodVars_none hV
  obtain ⟨s0, rfl, wx0⟩ := open_ins (hval 0 27 v0 rfl rfl) h0 (fit_of_all hsz (j := 0) rfl rfl)
  obtain ⟨s1, rfl, rfl, rfl, wl1⟩ := open_int Tryd.underlying3 (hval 1 3 v1 rfl rfl) h1
  obtain ⟨s2, rfl, rfl, rfl, wl2⟩ := open_int Tryd.underlying3 (hval 2 3 v2 rfl rfl) h2
  clear hA0 hval0
  refine (fieldsL s0 s1 s2 W ht).mono fun e W' ⟨he, hb⟩ => ?_
  subst he
  exact ⟨_, rfl, law_post laidOut (by kernel_rfl) (by kernel_rfl) rfl Tryd.underlying4 hW' rfl rfl rfl hb⟩

theorem said : Rows.CodeFieldsSaid :=
  OpenClaim.holds_of_wide 4 Tryd.f4 rfl rfl rfl rfl rfl rfl rfl ⟨rfl, rfl, rfl, rfl, rfl⟩ rfl rfl rfl rfl rfl (by kernel_rfl) Tryd.func4 (by kernel_rfl)
    (of_decide_eq_true (by kernel_rfl)) (by unfold Func.isWrapper; first | (rw [if_pos (by decide +kernel)]; kernel_rfl) | (rw [if_neg (by decide +kernel)]; exact ⟨rfl, rfl⟩))
    (fun os started H enc _ => lifted os started H enc)

theorem holds : Rows.CodeFieldsCardSaid :=
  Claim7.holds_tied_plain_at .later [] [.data] true _ false
    said (fun _ h => by cases h) (by kernel_rfl) (fun _ h => by cases h) codeFields_row_tie rfl ⟨rfl, rfl⟩ (by kernel_rfl) rfl
    (fun f fn hf hfn => by
      obtain rfl : f = 4 := Option.some.inj ((show Tryd.prog.funcNamed "soffit/soffitlaw09.CodeFields" = some 4 by kernel_rfl).symm.trans hf) |>.symm
      obtain rfl : fn = Tryd.f4 := (Option.some.inj (Tryd.func4.symm.trans hfn)).symm
      exact ⟨by kernel_rfl, fun j t ht => by
        rw [Tryd.params4] at ht
        have hm : t ∈ [27, 3, 3] := by simpa using Array.mem_of_getElem? ht
        have hall : ([27, 3, 3].all fun u => !Tryd.prog.wantsStandIn u) = true := by kernel_rfl
        exact (show Tryd.prog.wantsStandIn t = false by simpa using List.all_eq_true.1 hall t hm)⟩)
    (by kernel_rfl)
end Go.Proofs.YtpmffclepnkedaaDoor.codeFields
