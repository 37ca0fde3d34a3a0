/-
  CodeMay: of every module May tells the first thing that is wrong, as the document's reference, and the module stays as it is; the calls of fixed answer as they should. The one listed variable, the table of operations, is tied to the program's text.
-/
import Derived.Test.YtpmffclepnkedaaDoorFix
import Derived.Test.YtpmffclepnkedaaDoorLaid
import Derived.Test.YtpmffclepnkedaaDoorSameC
import Derived.Test.YtpmffclepnkedaaDoorKeepB
import Derived.Test.YtpmffclepnkedaaDoorCards
import Derived.Test.YtpmffclepnkedaaDoorTie
import Derived.SevenTiedAt
import Derived.Stop.Joined
namespace Go.Proofs.YtpmffclepnkedaaDoor
open Go.RowKit
set_option linter.unusedSimpArgs false
set_option linter.unusedVariables false
set_option maxHeartbeats 2000000 in
theorem mayL (m : ModD) (w : World) (ht : TabOk w) (wm : m.Wf) (nm : m.Nils) (hm : ModOk w w.heap.size m) : Calls Tryd.prog 5 #[m.val] w fun e w' => e = .returned (.bool true) ∧ Below w.heap.size w w' := by
  have HM := Lib.hid hm; clear hm
  have B0 : Below w.heap.size w (w.alloc (.cells #[.slice m.ta m.ths.length m.tc, .slice m.fa m.funcs.length m.fc] 33)) := below_alloc (Below.refl _ _) _
  have P0 := Whl.new w 33 #[.slice m.ta m.ths.length m.tc, .slice m.fa m.funcs.length m.fc]
  go_enter Tryd.func5, Tryd.ntmps5
  go_wp2_with (first
    | (go_at_call 19
       refine (copyR m _ wm nm (mod_S ⟨B0, trivial⟩ HM.out)).mono ?_
       rintro e w1 ⟨⟨c, rfl, hsm, ho⟩, hb1⟩
       have B1 := below_step B0 hb1
       have P1 := P0.below' hb1
       have l1 : w.heap.size < w1.heap.size := P1.lt)
    | (go_at_call 20
       refine (mayC hsm _ wm (ho.below ((Below.refl _ _).alloc (Nat.le_refl _) _)).ok (tab_S ⟨below_alloc B1 _, trivial⟩ ht)).mono ?_
       rintro e w2 ⟨rfl, hb2⟩
       have B2 := below_step (below_alloc B1 _) hb2
       have P2 := (P1.alloc _).below' hb2
       have O2 := (Whl.new w1 33 #[.slice c.ta c.ths.length c.tc, .slice c.fa c.funcs.length c.fc]).below' hb2
       have o2 := (ho.below ((Below.refl _ _).alloc (Nat.le_refl _) _)).below hb2
       have a20 := P2.cell 0
       have a21 := P2.cell 1
       have b20 := O2.cell 0
       have b21 := O2.cell 1
       have l2 : w.heap.size < w2.heap.size := P2.lt
       have l12 : w1.heap.size < w2.heap.size := O2.lt)
    | (go_at_call 21
       refine (sameC hsm _ wm (o2.below ((Below.refl _ _).alloc (Nat.le_refl _) _)).ok (mod_S ⟨below_alloc B2 _, trivial⟩ HM.out)).mono ?_
       rintro e w3 ⟨rfl, hb3⟩
       have B3 := below_step (below_alloc B2 _) hb3
       have P3 := (P2.alloc _).below' hb3
       have F3 := (Whl.new w2 37 #[.int .i64 (mayD m).e, .int .i64 (mayD m).f, .int .i64 (mayD m).a]).below' hb3
       have a30 := P3.cell 0
       have a31 := P3.cell 1
       have f30 := F3.cell 0
       have f31 := F3.cell 1
       have f32 := F3.cell 2
       have l3 : w.heap.size < w3.heap.size := P3.lt
       have l13 : w2.heap.size < w3.heap.size := F3.lt))
  go_region_held3 (fun w' => Below w.heap.size w w' ∧ w'.cell? ⟨w2.heap.size, 0, none⟩ = some (.int .i64 (mayD m).e) ∧ w'.cell? ⟨w2.heap.size, 1, none⟩ = some (.int .i64 (mayD m).f) ∧ w'.cell? ⟨w2.heap.size, 2, none⟩ = some (.int .i64 (mayD m).a) ∧ w'.cell? ⟨w.heap.size, 0, none⟩ = some (.slice m.ta m.ths.length m.tc) ∧ w'.cell? ⟨w.heap.size, 1, none⟩ = some (.slice m.fa m.funcs.length m.fc))
    (first | exact keepB5 (by assumption) (by assumption) | exact keepA5 (by assumption) | (refine ⟨Below.drew B3, ?_⟩; go_simp))
    (first
      | (go_at_call 9; refine (fixedL _ (tab_S (by assumption) ht)).mono ?_; rintro e w4 ⟨rfl, hb4⟩)
      | (go_at_call 22; refine (mayR m _ wm (mod_S (by assumption) HM.out)).mono ?_; rintro e w5 ⟨rfl, hb5⟩))
  go_wp2
  go_ret
  exact ⟨by simp, below_step (below_step (Below.drew B3) hb4) hb5⟩
end Go.Proofs.YtpmffclepnkedaaDoor
set_option linter.unusedVariables false
namespace Go.Proofs.YtpmffclepnkedaaDoor.codeMay
open Go.ChangeShapes Go.WideShapes Go.ChangeAt Go.RowKit
set_option maxRecDepth 100000 in
theorem lifted (os : Os) (started : os.Started) (H : Type) (enc : TypeId × Value → H) :
    ReturnsInHanded {} Tryd.checked os 5 .any (fun w args => (Rows.codeMaySpec.pre enc Tryd.prog Tryd.f5 [] false w args ∧ laidMetH Tryd.prog laidRows w) ∧ sizedMet enc Tryd.prog Tryd.f5 (OpenSpec.ofChange Rows.codeMaySpec) false w args) (Rows.codeMaySpec.post enc Tryd.prog Tryd.f5 false true false false) := by
  refine returnsInHanded_of_change_and (C := Tryd.checked) (X := fun w _ => laidMetH Tryd.prog laidRows w) (fun _ _ _ hh h => h.of_heap hh) own started (by kernel_rfl) Tryd.func5
    (ChangeSpec.witness_shaped (enc := enc) (C := Tryd.checked) (os := os) (X := fun w _ => laidMetH Tryd.prog laidRows w) false (World.doorLaid Tryd.prog 400 os) #[.agg #[.slice none 0 0, .slice none 0 0]] 8 rfl (door_shaped os _) (by kernel_rfl) (by kernel_rfl) (by kernel_rfl) (door_met os _)) ?_
  intro W base args ds gs before hval0 hW hcnd hsz0 hL hholds
  have hsz : (DataW.weightsEach Tryd.prog (Tryd.f5.params.toList ++ Rows.codeMaySpec.plain.varTypes Tryd.prog) (ds ++ gs)).all (· ≤ reachBytes) = true := hsz0
  have ht : TabOk W := tab_of_laid hL
  have hval : ∀ (j : Nat) t v, Tryd.f5.params[j]? = some t → args[j]? = some v → Value.okWide Tryd.prog W .any base t v := hval0
  have hW' := hW
  obtain ⟨p, q, hA0, hV, rfl, hfz, hnd⟩ := hW
  have hA : DataW.TrodAll enc Tryd.prog W 0 (fun _ => true) true Tryd.f5.params.toList args.toList ds p := hA0
  rw [Tryd.params5] at hA hval hsz
  obtain ⟨v0, vs0, d0, ds0, p0, q0, hargs, rfl, rfl, h0, r0⟩ := trodAll_cons hA
  obtain ⟨rfl, rfl, rfl⟩ := trodAll_nil r0
  obtain rfl : args = #[v0] := by cases args; simp_all
  obtain ⟨rfl, rfl⟩ := trodVars_none hV
  obtain ⟨s0, rfl, wm0, hm0, nm0⟩ := open_mod (hval 0 33 v0 rfl rfl) h0 (fit_of_all hsz (j := 0) rfl rfl)
  clear hA0 hval0
  refine (mayL s0 W ht wm0 nm0 hm0).mono fun e W' ⟨he, hb⟩ => ?_
  subst he
  exact ⟨_, rfl, law_post laidOut (by kernel_rfl) (by kernel_rfl) rfl Tryd.underlying4 hW' rfl rfl rfl hb⟩

theorem said : Rows.CodeMaySaid :=
  OpenClaim.holds_of_wide 5 Tryd.f5 rfl rfl rfl rfl rfl rfl rfl ⟨rfl, rfl, rfl, rfl, rfl⟩ rfl rfl rfl rfl rfl (by kernel_rfl) Tryd.func5 (by kernel_rfl)
    (of_decide_eq_true (by kernel_rfl)) (by unfold Func.isWrapper; first | (rw [if_pos (by decide +kernel)]; kernel_rfl) | (rw [if_neg (by decide +kernel)]; exact ⟨rfl, rfl⟩))
    (fun os started H enc _ => lifted os started H enc)

theorem holds : Rows.CodeMayCardSaid :=
  Claim7.holds_tied_plain_at .later [] [.data] true _ false
    said (fun _ h => by cases h) (by kernel_rfl) (fun _ h => by cases h) codeMay_row_tie rfl ⟨rfl, rfl⟩ (by kernel_rfl) rfl
    (fun f fn hf hfn => by
      obtain rfl : f = 5 := Option.some.inj ((show Tryd.prog.funcNamed "soffit/soffitlaw09.CodeMay" = some 5 by kernel_rfl).symm.trans hf) |>.symm
      obtain rfl : fn = Tryd.f5 := (Option.some.inj (Tryd.func5.symm.trans hfn)).symm
      exact ⟨by kernel_rfl, fun j t ht => by
        rw [Tryd.params5] at ht
        have hm : t ∈ [33] := by simpa using Array.mem_of_getElem? ht
        have hall : ([33].all fun u => !Tryd.prog.wantsStandIn u) = true := by kernel_rfl
        exact (show Tryd.prog.wantsStandIn t = false by simpa using List.all_eq_true.1 hall t hm)⟩)
    (by kernel_rfl)
end Go.Proofs.YtpmffclepnkedaaDoor.codeMay
