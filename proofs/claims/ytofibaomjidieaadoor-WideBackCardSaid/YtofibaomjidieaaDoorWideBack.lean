/-
  WideBack: a number's text is read as that number; what is read has just that text; the calls of fixed answer as they should. The three listed variables are tied to the program's text.
-/
import Derived.Test.YtofibaomjidieaaDoorFixed
import Derived.Test.YtofibaomjidieaaDoorLaid
import Derived.Test.YtofibaomjidieaaDoorTextW
import Derived.Test.YtofibaomjidieaaDoorBackP
import Derived.Test.YtofibaomjidieaaDoorCards
import Derived.Test.YtofibaomjidieaaDoorTie
import Derived.Deep.RegionWith
import Derived.Deep.DeepCutAuto
import Derived.SevenTiedAt
import Derived.Stop.Joined
namespace Go.Proofs.YtofibaomjidieaaDoor
open Go.RowKit
set_option linter.unusedSimpArgs false
set_option linter.unusedVariables false
set_option maxHeartbeats 8000000 in
theorem backL (a : Wd) (s : ByteArray) (ha : a.Wf) (hs : s.size ≤ maxLen) (w : World) (ht : Pow10 w) : Calls Tryd.prog 8 #[a.v, .string s] w fun e w' => e = .returned (.bool true) ∧ Below w.heap.size w w' := by
  have B0 : Below w.heap.size w (w.alloc (.cells #[.int .u64 (a.hi : Int), .int .u64 (a.lo : Int)] 24)) := below_alloc (Below.refl _ _) _
  have hp : ∀ W, Pow10 W → Calls Tryd.prog 23 #[a.v] W fun e w' => e = .returned (.string (BA (Lib.decDigits a.val))) ∧ Below W.heap.size W w' := fun W h => textP a ha W h
  have hx : ∀ W, Calls Tryd.prog 25 #[.string (BA (Lib.decDigits a.val))] W fun e w' => e = .returned (.tuple #[a.v, .int .i64 0]) ∧ Below W.heap.size W w' := fun W => by
    have h := parseP (BA (Lib.decDigits a.val)) (text_len (val_lt ha)) W
    rwa [(parse_text (val_lt ha)).1, (parse_text (val_lt ha)).2, wd_of ha] at h
  generalize BA (Lib.decDigits a.val) = t at *
  have wy := parseV_wf s
  have hy : ∀ W, Calls Tryd.prog 25 #[.string s] W fun e w' => e = .returned (.tuple #[(parseV s).v, .int .i64 (parseE s)]) ∧ Below W.heap.size W w' := fun W => parseP s hs W
  have hq : parseE s = 0 → ∀ W, Pow10 W → Calls Tryd.prog 23 #[(parseV s).v] W fun e w' => e = .returned (.string s) ∧ Below W.heap.size W w' := fun h0 W h => by
    have h := textP (parseV s) wy W h
    rwa [text_parse h0] at h
  generalize parseV s = y at *
  generalize parseE s = f at *
  by_cases h0 : f = 0
  · subst h0
    have hq2 := hq rfl
    clear hq
    go_enter Tryd.func8, Tryd.ntmps8
    go_wp2_with (first
      | (go_at_call 23; with_reducible refine (hp _ (ht.step B0)).mono ?_; rintro e w1 ⟨rfl, hb1⟩; obtain ⟨hcc1, hff1⟩ := bcell hb1; have hs1 := hb1.size; (try simp at hs1); (have m1_0 : w.heap.size < w1.heap.size := (by omega)); have B1 : Below w.heap.size w w1 := below_step (B0) hb1)
      | (go_at_call 25; with_reducible refine (hx _).mono ?_; rintro e w2 ⟨rfl, hb2⟩; obtain ⟨hcc2, hff2⟩ := bcell hb2; have hs2 := hb2.size; (try simp at hs2); (have m2_0 : w.heap.size < w2.heap.size := (by omega)); have B2 : Below w.heap.size w w2 := below_step (B1) hb2)
      | (go_at_call 25; with_reducible refine (hy _).mono ?_; rintro e w3 ⟨rfl, hb3⟩; obtain ⟨hcc3, hff3⟩ := bcell hb3; have hs3 := hb3.size; (try simp at hs3); (have m3_0 : w.heap.size < w3.heap.size := (by omega)); (have m3_1 : w2.heap.size < w3.heap.size := (by omega)); have B3 : Below w.heap.size w w3 := below_step (below_alloc B2 _) hb3)
      | (go_at_call 13; with_reducible refine (fixedL _ (ht.step (below_alloc B3 _))).mono ?_; rintro e w4 ⟨rfl, hb4⟩; obtain ⟨hcc4, hff4⟩ := bcell hb4; have hs4 := hb4.size; (try simp at hs4); (have m4_0 : w.heap.size < w4.heap.size := (by omega)); (have m4_1 : w2.heap.size < w4.heap.size := (by omega)); (have m4_2 : w3.heap.size < w4.heap.size := (by omega)); have B4 : Below w.heap.size w w4 := below_step (below_alloc B3 _) hb4)
      | (go_at_call 23; with_reducible refine (hq2 _ (ht.step B4)).mono ?_; rintro e w5 ⟨rfl, hb5⟩; obtain ⟨hcc5, hff5⟩ := bcell hb5; have hs5 := hb5.size; (try simp at hs5); (have m5_0 : w.heap.size < w5.heap.size := (by omega)); (have m5_1 : w2.heap.size < w5.heap.size := (by omega)); (have m5_2 : w3.heap.size < w5.heap.size := (by omega)); have B5 : Below w.heap.size w w5 := below_step (B4) hb5))
    go_ret
    exact ⟨by simp, B5⟩
  · have u1 : (f != 0) = true := by simp [h0]
    have u2 : (f == 0) = false := by simp [h0]
    clear hq h0
    go_enter Tryd.func8, Tryd.ntmps8
    go_wp2_with (first
      | (go_at_call 23; with_reducible refine (hp _ (ht.step B0)).mono ?_; rintro e w1 ⟨rfl, hb1⟩; obtain ⟨hcc1, hff1⟩ := bcell hb1; have hs1 := hb1.size; (try simp at hs1); (have m1_0 : w.heap.size < w1.heap.size := (by omega)); have B1 : Below w.heap.size w w1 := below_step (B0) hb1)
      | (go_at_call 25; with_reducible refine (hx _).mono ?_; rintro e w2 ⟨rfl, hb2⟩; obtain ⟨hcc2, hff2⟩ := bcell hb2; have hs2 := hb2.size; (try simp at hs2); (have m2_0 : w.heap.size < w2.heap.size := (by omega)); have B2 : Below w.heap.size w w2 := below_step (B1) hb2)
      | (go_at_call 25; with_reducible refine (hy _).mono ?_; rintro e w3 ⟨rfl, hb3⟩; obtain ⟨hcc3, hff3⟩ := bcell hb3; have hs3 := hb3.size; (try simp at hs3); (have m3_0 : w.heap.size < w3.heap.size := (by omega)); (have m3_1 : w2.heap.size < w3.heap.size := (by omega)); have B3 : Below w.heap.size w w3 := below_step (below_alloc B2 _) hb3)
      | (go_at_call 13; with_reducible refine (fixedL _ (ht.step (below_alloc B3 _))).mono ?_; rintro e w4 ⟨rfl, hb4⟩; obtain ⟨hcc4, hff4⟩ := bcell hb4; have hs4 := hb4.size; (try simp at hs4); (have m4_0 : w.heap.size < w4.heap.size := (by omega)); (have m4_1 : w2.heap.size < w4.heap.size := (by omega)); (have m4_2 : w3.heap.size < w4.heap.size := (by omega)); have B4 : Below w.heap.size w w4 := below_step (below_alloc B3 _) hb4))
    go_ret
    exact ⟨by simp, B4⟩
end Go.Proofs.YtofibaomjidieaaDoor
set_option linter.unusedVariables false
namespace Go.Proofs.YtofibaomjidieaaDoor.wideBack
open Go.ChangeShapes Go.WideShapes Go.ChangeAt Go.RowKit
set_option maxRecDepth 100000 in
theorem lifted (os : Os) (started : os.Started) (H : Type) (enc : TypeId × Value → H) :
    ReturnsInHanded {} Tryd.checked os 8 .any (fun w args => (Rows.wideBackSpec.pre enc Tryd.prog Tryd.f8 [] false w args ∧ laidMetH Tryd.prog laidRows w) ∧ sizedMet enc Tryd.prog Tryd.f8 (OpenSpec.ofChange Rows.wideBackSpec) false w args) (Rows.wideBackSpec.post enc Tryd.prog Tryd.f8 false true false false) := by
  refine returnsInHanded_of_change_and (C := Tryd.checked) (X := fun w _ => laidMetH Tryd.prog laidRows w) (fun _ _ _ hh h => h.of_heap hh) own started (by kernel_rfl) Tryd.func8
    (ChangeSpec.witness_shaped (enc := enc) (C := Tryd.checked) (os := os) (X := fun w _ => laidMetH Tryd.prog laidRows w) false (World.doorLaid Tryd.prog 400 os) #[.agg #[.int .u64 0, .int .u64 0], .string .empty] 8 rfl (door_shaped os _) (by kernel_rfl) (by kernel_rfl) (by kernel_rfl) (door_met os _)) ?_
  intro W base args ds gs before hval0 hW hcnd hsz0 hL hholds
  have hsz : (DataW.weightsEach Tryd.prog (Tryd.f8.params.toList ++ Rows.wideBackSpec.plain.varTypes Tryd.prog) (ds ++ gs)).all (· ≤ reachBytes) = true := hsz0
  have ht : Pow10 W := tab_of_laid hL
  have hval : ∀ (j : Nat) t v, Tryd.f8.params[j]? = some t → args[j]? = some v → Value.okWide Tryd.prog W .any base t v := hval0
  have hW' := hW
  obtain ⟨p, q, hA0, hV, rfl, hfz, hnd⟩ := hW
  have hA : DataW.TrodAll enc Tryd.prog W 0 (fun _ => true) true Tryd.f8.params.toList args.toList ds p := hA0
  rw [Tryd.params8] at hA hval hsz
  obtain ⟨v0, vs0, d0, ds0, p0, q0, hargs, rfl, rfl, h0, r0⟩ := trodAll_cons hA
  obtain ⟨v1, vs1, d1, ds1, p1, q1, rfl, rfl, rfl, h1, r1⟩ := trodAll_cons r0
  obtain ⟨rfl, rfl, rfl⟩ := trodAll_nil r1
  obtain rfl : args = #[v0, v1] := by cases args; simp_all
  obtain ⟨rfl, rfl⟩ := trodVars_none hV
  obtain ⟨s0, rfl, wf0⟩ := open_wide (hval 0 24 v0 rfl rfl) h0
  obtain ⟨s1, rfl, rfl, rfl, wl1⟩ := Go.ChangeMaps.open_string Tryd.underlying9 (hval 1 9 v1 rfl rfl) h1
  clear hA0 hval0
  refine (backL s0 s1 wf0 wl1 W ht).mono fun e W' ⟨he, hb⟩ => ?_
  subst he
  exact ⟨_, rfl, law_post laidOut (by kernel_rfl) (by kernel_rfl) rfl Tryd.underlying4 hW' rfl rfl rfl hb⟩

theorem said : Rows.WideBackSaid :=
  OpenClaim.holds_of_wide 8 Tryd.f8 rfl rfl rfl rfl rfl rfl rfl ⟨rfl, rfl, rfl, rfl, rfl⟩ rfl rfl rfl rfl rfl (by kernel_rfl) Tryd.func8 (by kernel_rfl)
    (of_decide_eq_true (by kernel_rfl)) (by unfold Func.isWrapper; first | (rw [if_pos (by decide +kernel)]; kernel_rfl) | (rw [if_neg (by decide +kernel)]; exact ⟨rfl, rfl⟩))
    (fun os started H enc _ => lifted os started H enc)

theorem holds : Rows.WideBackCardSaid :=
  Claim7.holds_tied_plain_at .later [] [.data, .data, .data] true _ false
    said (fun _ h => by cases h) (by kernel_rfl) (fun _ h => by cases h) wideBack_row_tie rfl ⟨rfl, rfl⟩ (by kernel_rfl) rfl
    (fun f fn hf hfn => by
      obtain rfl : f = 8 := Option.some.inj ((show Tryd.prog.funcNamed "soffit/soffitlaw07.WideBack" = some 8 by kernel_rfl).symm.trans hf) |>.symm
      obtain rfl : fn = Tryd.f8 := (Option.some.inj (Tryd.func8.symm.trans hfn)).symm
      exact ⟨by kernel_rfl, fun j t ht => by
        rw [Tryd.params8] at ht
        have hm : t ∈ [24, 9] := by simpa using Array.mem_of_getElem? ht
        have hall : ([24, 9].all fun u => !Tryd.prog.wantsStandIn u) = true := by kernel_rfl
        exact (show Tryd.prog.wantsStandIn t = false by simpa using List.all_eq_true.1 hall t hm)⟩)
    (by kernel_rfl)
end Go.Proofs.YtofibaomjidieaaDoor.wideBack
