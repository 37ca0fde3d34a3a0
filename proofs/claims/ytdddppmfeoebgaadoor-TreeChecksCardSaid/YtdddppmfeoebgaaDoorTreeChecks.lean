/-
  TreeChecks: of any program package tree tells the same fault as the document's reference; the calls of awake answer as they should. The three listed variables are tied to the program's text.
-/
import Derived.Test.YtdddppmfeoebgaaDoorCheckR
import Derived.Test.YtdddppmfeoebgaaDoorLaid
import Derived.Test.YtdddppmfeoebgaaDoorCards
import Derived.Test.YtdddppmfeoebgaaDoorTie
import Derived.Deep.QuietTactic
import Derived.BigQuiet
import Derived.Lib.QuietBelow
import Derived.Deep.CutBlock
import Derived.Laws.StructEq
import Derived.SevenTiedAt
import Derived.Stop.Joined
namespace Go.Proofs.YtdddppmfeoebgaaDoor
open Go.RowKit
set_option linter.unusedSimpArgs false
set_option linter.unusedVariables false
theorem awake_re {w : World} (ht : Pow10 w) (d : Nat) (os : Array Obj) :
    Calls Tryd.prog 11 #[] (Sort.grow (redrawn w d) os) fun e w'' => e = .returned (.bool true) ∧ ∃ q : Regrown, w'' = Sort.grow (redrawn w q.d) q.os :=
  Calls.regrown_of (awakeL _ (ht.step (below_regrown w d os)))
theorem checkP_re {w : World} {p : PrD} {wa fa : Option Addr} {wc fc : Nat} (hp : PrOk w w.heap.size p wa fa) (d : Nat) (os : Array Obj) :
    Calls Tryd.prog 12 #[prV p wa fa wc fc] (Sort.grow (redrawn w d) os) fun e w'' => e = .returned (faultV (checkD p)) ∧ ∃ q : Regrown, w'' = Sort.grow (redrawn w q.d) q.os :=
  Calls.regrown_of (checkP p wa fa wc fc w.heap.size _ (below_regrown w d os).size (hp.keep (below_regrown w d os) (Nat.le_refl _)))
theorem checkR_re {w : World} {p : PrD} {wa fa : Option Addr} {wc fc : Nat} (hp : PrOk w w.heap.size p wa fa) (d : Nat) (os : Array Obj) :
    Calls Tryd.prog 13 #[prV p wa fa wc fc] (Sort.grow (redrawn w d) os) fun e w'' => e = .returned (faultV (checkD p)) ∧ ∃ q : Regrown, w'' = Sort.grow (redrawn w q.d) q.os :=
  Calls.regrown_of (checkRef p wa fa wc fc w.heap.size _ (below_regrown w d os).size (hp.keep (below_regrown w d os) (Nat.le_refl _)))
theorem checksL (p : PrD) (wa fa : Option Addr) (wc fc : Nat) (w : World) (hp : PrOk w w.heap.size p wa fa) (ht : Pow10 w) :
    Calls Tryd.prog 4 #[prV p wa fa wc fc] w fun e w' => e = .returned (.bool true) ∧ Below w.heap.size w w' := by
  have X1 := Whl.new w 26 (prC p wa fa wc fc)
  have B1 := below_alloc (Below.refl w.heap.size w) (.cells (prC p wa fa wc fc) 26)
  have J0 := awake_re (ht.step B1)
  have J1 := checkP_re (wc := wc) (fc := fc) (hp.step B1)
  have J2 := checkR_re (wc := wc) (fc := fc) (hp.step B1)
  obtain ⟨q0, q1⟩ := X1.c2
  have q0' := cell_regrown q0
  have q1' := cell_regrown q1
  clear hp ht q0 q1 X1
  go_enter Tryd.func4, Tryd.ntmps4
  go_upto_region 1 with fail
  generalize w.alloc (.cells (prC p wa fa wc fc) 26) = V at J0 J1 J2 q0' q1' B1 ⊢
  refine wp_region_quiet_below (by kernel_rfl) (by kernel_rfl) ?_
  repeat (first | quiet_step (first | with_reducible exact J0 _ _ | with_reducible exact J1 _ _ | with_reducible exact J2 _ _) | go_big_quiet_step (first | with_reducible exact J0 _ _ | with_reducible exact J1 _ _ | with_reducible exact J2 _ _))
  refine wpQuiet_nil ?_
  intro _ hw'
  obtain ⟨⟨dq, osq⟩, hw''⟩ := hw'
  subst hw''
  go_wp2
  go_ret
  exact ⟨by simp, below_step B1 (below_regrown V dq osq)⟩
end Go.Proofs.YtdddppmfeoebgaaDoor
set_option linter.unusedVariables false
namespace Go.Proofs.YtdddppmfeoebgaaDoor.treeChecks
open Go.ChangeShapes Go.WideShapes Go.ChangeAt Go.RowKit
set_option maxRecDepth 100000 in
theorem lifted (os : Os) (started : os.Started) (H : Type) (enc : TypeId × Value → H) :
    ReturnsInHanded {} Tryd.checked os 4 .any (fun w args => (Rows.treeChecksSpec.pre enc Tryd.prog Tryd.f4 [] false w args ∧ laidMetH Tryd.prog laidRows w) ∧ sizedMet enc Tryd.prog Tryd.f4 (OpenSpec.ofChange Rows.treeChecksSpec) false w args) (Rows.treeChecksSpec.post enc Tryd.prog Tryd.f4 false true false false) := by
  refine returnsInHanded_of_change_and (C := Tryd.checked) (X := fun w _ => laidMetH Tryd.prog laidRows w) (fun _ _ _ hh h => h.of_heap hh) own started (by kernel_rfl) Tryd.func4
    (ChangeSpec.witness_shaped (enc := enc) (C := Tryd.checked) (os := os) (X := fun w _ => laidMetH Tryd.prog laidRows w) false (World.doorLaid Tryd.prog 400 os) #[.agg #[.slice none 0 0, .slice none 0 0]] 8 rfl (door_shaped os _) (by kernel_rfl) (by kernel_rfl) (by kernel_rfl) (door_met os _)) ?_
  intro W base args ds gs before hval0 hW hcnd hsz0 hL hholds
  have hsz : (DataW.weightsEach Tryd.prog (Tryd.f4.params.toList ++ Rows.treeChecksSpec.plain.varTypes Tryd.prog) (ds ++ gs)).all (· ≤ reachBytes) = true := hsz0
  have ht : Pow10 W := tab_of_laid hL
  have hval : ∀ (j : Nat) t v, Tryd.f4.params[j]? = some t → args[j]? = some v → Value.okWide Tryd.prog W .any base t v := hval0
  have hW' := hW
  obtain ⟨p, q, hA0, hV, rfl, hfz, hnd⟩ := hW
  have hA : DataW.TrodAll enc Tryd.prog W 0 (fun _ => true) true Tryd.f4.params.toList args.toList ds p := hA0
  rw [Tryd.params4] at hA hval hsz
  obtain ⟨v0, vs0, d0, ds0, p0, q0, hargs, rfl, rfl, h0, r0⟩ := trodAll_cons hA
  obtain ⟨rfl, rfl, rfl⟩ := trodAll_nil r0
  obtain rfl : args = #[v0] := by cases args; simp_all
  obtain ⟨rfl, rfl⟩ := trodVars_none hV
  obtain ⟨s0, wa0, fa0, wc0, fc0, rfl, hp0, lw0, lf0, mw0, mf0⟩ := open_prog (hval 0 26 v0 rfl rfl) h0 (fit_of_all hsz (j := 0) rfl rfl)
  clear hA0 hval0
  refine (checksL s0 wa0 fa0 wc0 fc0 W hp0 ht).mono fun e W' ⟨he, hb⟩ => ?_
  subst he
  exact ⟨_, rfl, law_post laidOut (by kernel_rfl) (by kernel_rfl) rfl Tryd.underlying4 hW' rfl rfl rfl hb⟩

theorem said : Rows.TreeChecksSaid :=
  OpenClaim.holds_of_wide 4 Tryd.f4 rfl rfl rfl rfl rfl rfl rfl ⟨rfl, rfl, rfl, rfl, rfl⟩ rfl rfl rfl rfl rfl (by kernel_rfl) Tryd.func4 (by kernel_rfl)
    (of_decide_eq_true (by kernel_rfl)) (by unfold Func.isWrapper; first | (rw [if_pos (by decide +kernel)]; kernel_rfl) | (rw [if_neg (by decide +kernel)]; exact ⟨rfl, rfl⟩))
    (fun os started H enc _ => lifted os started H enc)

theorem holds : Rows.TreeChecksCardSaid :=
  Claim7.holds_tied_plain_at .later [] [.data, .data, .data] true _ false
    said (fun _ h => by cases h) (by kernel_rfl) (fun _ h => by cases h) treeChecks_row_tie rfl ⟨rfl, rfl⟩ (by kernel_rfl) rfl
    (fun f fn hf hfn => by
      obtain rfl : f = 4 := Option.some.inj ((show Tryd.prog.funcNamed "soffit/soffitlaw02.TreeChecks" = some 4 by kernel_rfl).symm.trans hf) |>.symm
      obtain rfl : fn = Tryd.f4 := (Option.some.inj (Tryd.func4.symm.trans hfn)).symm
      exact ⟨by kernel_rfl, fun j t ht => by
        rw [Tryd.params4] at ht
        have hm : t ∈ [26] := by simpa using Array.mem_of_getElem? ht
        have hall : ([26].all fun u => !Tryd.prog.wantsStandIn u) = true := by kernel_rfl
        exact (show Tryd.prog.wantsStandIn t = false by simpa using List.all_eq_true.1 hall t hm)⟩)
    (by kernel_rfl)
end Go.Proofs.YtdddppmfeoebgaaDoor.treeChecks
