/-
  WideMuls: the products are the document's reference's for all numbers and words; the calls of fixed answer as they should. The three listed variables are tied to the program's text.
-/
import Derived.Test.YtofibaomjidieaaDoorFixed
import Derived.Test.YtofibaomjidieaaDoorLaid
import Derived.Test.YtofibaomjidieaaDoorTimesR
import Derived.Test.YtofibaomjidieaaDoorCards
import Derived.Test.YtofibaomjidieaaDoorTie
import Derived.Deep.RegionWith
import Derived.Deep.DeepCutAuto
import Derived.SevenTiedAt
import Derived.Stop.Joined
namespace Go.Proofs.YtofibaomjidieaaDoor
open Go.RowKit
set_option linter.unusedSimpArgs false
set_option linter.unusedVariables false
theorem addX {a b : Wd} (ha : a.Wf) (hb : b.Wf) {x : Wd} {r : Bool} (hr : fits2 (a.val + b.val) = r) (hx : wdOf (a.val + b.val) = x) (w : World) : Calls Tryd.prog 11 #[a.v, b.v] w fun e w' => e = .returned (.tuple #[x.v, .bool r]) ∧ Below w.heap.size w w' := by
  subst hr hx; exact addP a b ha hb w
theorem timesX {a : Wd} {b : Nat} (ha : a.Wf) (hb : b < 18446744073709551616) {x : Wd} {r : Bool} (hr : fits2 (a.val * b) = r) (hx : wdOf (a.val * b) = x) (w : World) : Calls Tryd.prog 17 #[a.v, .int .u64 (b : Int)] w fun e w' => e = .returned (.tuple #[x.v, .bool r]) ∧ Below w.heap.size w w' := by
  subst hr hx; exact timesP a b ha hb w
theorem cmpX {a b : Wd} (ha : a.Wf) (hb : b.Wf) {c : Int} (hc : cmpD a b = c) (w : World) : Calls Tryd.prog 14 #[a.v, b.v] w fun e w' => e = .returned (.int .i64 c) ∧ Below w.heap.size w w' := by
  subst hc; exact compareP a b ha hb w
theorem cmp_ge {a b : Wd} (h : b.val ≤ a.val) : decide (0 ≤ cmpD a b) = true := by
  unfold cmpD; by_cases e : a.val = b.val
  · rw [if_pos e]; rfl
  · rw [if_neg e, if_neg (by omega)]; rfl
theorem cmp_nlt {a b : Wd} (h : b.val ≤ a.val) : decide (cmpD a b < 0) = false := by
  unfold cmpD; by_cases e : a.val = b.val
  · rw [if_pos e]; rfl
  · rw [if_neg e, if_neg (by omega)]; rfl
theorem cmp_lt {a b : Wd} (h : a.val < b.val) : decide (0 ≤ cmpD a b) = false := by
  unfold cmpD; rw [if_neg (by omega), if_pos h]; rfl
theorem fits_f {n : Nat} (h : 340282366920938463463374607431768211456 ≤ n) : fits2 n = false := by simp only [fits2, decide_eq_false_iff_not]; omega
theorem of_fits {n : Nat} (h : fits2 n = true) : n < 340282366920938463463374607431768211456 := by simpa [fits2] using h
theorem of_nfits {n : Nat} (h : fits2 n = false) : 340282366920938463463374607431768211456 ≤ n := by
  have : ¬ n < 340282366920938463463374607431768211456 := by simpa [fits2] using h
  omega
theorem timesRX {a : Wd} {b : Nat} (ha : a.Wf) (hb : b < 18446744073709551616) {x : Wd} {r : Bool} (hr : fits2 (a.val * b) = r) (hx : wdOf (a.val * b) = x) (w : World) : Calls Tryd.prog 18 #[a.v, .int .u64 (b : Int)] w fun e w' => e = .returned (.tuple #[x.v, .bool r]) ∧ Below w.heap.size w w' := by
  subst hr hx; exact timesR a b ha hb w
theorem mulX {x y : Nat} {m : Wd} (hx : x < 18446744073709551616) (hy : y < 18446744073709551616) (hm : wd (x * y) = m) (w : World) : Calls Tryd.prog 19 #[.int .u64 (x : Int), .int .u64 (y : Int)] w fun e w' => e = .returned m.v ∧ Below w.heap.size w w' := by
  subst hm; exact mulP x y hx hy w
theorem mulRX {x y : Nat} {m : Wd} (hx : x < 18446744073709551616) (hy : y < 18446744073709551616) (hm : wd (x * y) = m) (w : World) : Calls Tryd.prog 20 #[.int .u64 (x : Int), .int .u64 (y : Int)] w fun e w' => e = .returned m.v ∧ Below w.heap.size w w' := by
  subst hm; exact mulR x y hx hy w
set_option maxHeartbeats 8000000 in
theorem mulsL (a : Wd) (n : Nat) (ha : a.Wf) (hn : n < 18446744073709551616) (w : World) (ht : Pow10 w) : Calls Tryd.prog 4 #[a.v, .int .u64 (n : Int)] w fun e w' => e = .returned (.bool true) ∧ Below w.heap.size w w' := by
  have B0 : Below w.heap.size w (w.alloc (.cells #[.int .u64 (a.hi : Int), .int .u64 (a.lo : Int)] 24)) := below_alloc (Below.refl _ _) _
  obtain ⟨x, hx⟩ : ∃ x, wdOf (a.val * n) = x := ⟨_, rfl⟩
  obtain ⟨ok, hab⟩ : ∃ r, fits2 (a.val * n) = r := ⟨_, rfl⟩
  obtain ⟨l, hl⟩ : ∃ m, wd (a.lo * n) = m := ⟨_, rfl⟩
  obtain ⟨h, hh⟩ : ∃ m, wd (a.hi * n) = m := ⟨_, rfl⟩
  go_enter Tryd.func4, Tryd.ntmps4
  go_wp2_with (first
    | (go_at_call 17; with_reducible refine (timesX ha hn hab hx _).mono ?_; rintro e w1 ⟨rfl, hb1⟩; obtain ⟨hcc1, hff1⟩ := bcell hb1; have hs1 := hb1.size; (try simp at hs1); (have m1_0 : w.heap.size < w1.heap.size := (by omega)); have B1 : Below w.heap.size w w1 := below_step (B0) hb1)
    | (go_at_call 18; with_reducible refine (timesRX ha hn hab hx _).mono ?_; rintro e w2 ⟨rfl, hb2⟩; obtain ⟨hcc2, hff2⟩ := bcell hb2; have hs2 := hb2.size; (try simp at hs2); (have m2_0 : w.heap.size < w2.heap.size := (by omega)); (have m2_1 : w1.heap.size < w2.heap.size := (by omega)); have B2 : Below w.heap.size w w2 := below_step (below_alloc B1 _) hb2))
  go_region_held3 (fun w' => Below w.heap.size w w' ∧ w'.cell? ⟨w.heap.size, 0, none⟩ = some (.int .u64 (a.hi : Int)) ∧ w'.cell? ⟨w.heap.size, 1, none⟩ = some (.int .u64 (a.lo : Int)) ∧ w'.cell? ⟨w1.heap.size, 0, none⟩ = some (.int .u64 (x.hi : Int)) ∧ w'.cell? ⟨w1.heap.size, 1, none⟩ = some (.int .u64 (x.lo : Int)) ∧ w'.cell? ⟨w2.heap.size, 0, none⟩ = some (.int .u64 (x.hi : Int)) ∧ w'.cell? ⟨w2.heap.size, 1, none⟩ = some (.int .u64 (x.lo : Int)))
    (first | exact keepB6 (by assumption) (by assumption) | exact keepA6 (by assumption) | (refine ⟨by repeat (first | assumption | exact Below.refl _ _ | with_reducible apply Below.drew | with_reducible apply below_alloc), ?_⟩; go_simp))
    (first
      | (go_at_call 13; with_reducible refine (fixedL _ (pow_S (by assumption) ht)).mono ?_; rintro e w6 ⟨rfl, hb6⟩; obtain ⟨hcc6, hff6⟩ := bcell hb6; have hs6 := hb6.size; (try simp at hs6); (have m6_0 : w.heap.size < w6.heap.size := (by omega)); (have m6_1 : w1.heap.size < w6.heap.size := (by omega)); (have m6_2 : w2.heap.size < w6.heap.size := (by omega)))
      | (go_at_call 19; with_reducible refine (mulX ha.lo hn hl _).mono ?_; rintro e w7 ⟨rfl, hb7⟩; obtain ⟨hcc7, hff7⟩ := bcell hb7; have hs7 := hb7.size; (try simp at hs7); (have m7_0 : w.heap.size < w7.heap.size := (by omega)); (have m7_1 : w1.heap.size < w7.heap.size := (by omega)); (have m7_2 : w2.heap.size < w7.heap.size := (by omega)))
      | (go_at_call 20; with_reducible refine (mulRX ha.lo hn hl _).mono ?_; rintro e w8 ⟨rfl, hb8⟩; obtain ⟨hcc8, hff8⟩ := bcell hb8; have hs8 := hb8.size; (try simp at hs8); (have m8_0 : w.heap.size < w8.heap.size := (by omega)); (have m8_1 : w1.heap.size < w8.heap.size := (by omega)); (have m8_2 : w2.heap.size < w8.heap.size := (by omega)))
      | (go_at_call 19; with_reducible refine (mulX ha.hi hn hh _).mono ?_; rintro e w9 ⟨rfl, hb9⟩; obtain ⟨hcc9, hff9⟩ := bcell hb9; have hs9 := hb9.size; (try simp at hs9); (have m9_0 : w.heap.size < w9.heap.size := (by omega)); (have m9_1 : w1.heap.size < w9.heap.size := (by omega)); (have m9_2 : w2.heap.size < w9.heap.size := (by omega)))
      | (go_at_call 20; with_reducible refine (mulRX ha.hi hn hh _).mono ?_; rintro e w10 ⟨rfl, hb10⟩; obtain ⟨hcc10, hff10⟩ := bcell hb10; have hs10 := hb10.size; (try simp at hs10); (have m10_0 : w.heap.size < w10.heap.size := (by omega)); (have m10_1 : w1.heap.size < w10.heap.size := (by omega)); (have m10_2 : w2.heap.size < w10.heap.size := (by omega))))
  rename_i hh
  obtain ⟨B7, -⟩ := hh
  all_goals go_wp2
  all_goals go_ret
  all_goals exact ⟨by simp, B7⟩
end Go.Proofs.YtofibaomjidieaaDoor
set_option linter.unusedVariables false
namespace Go.Proofs.YtofibaomjidieaaDoor.wideMuls
open Go.ChangeShapes Go.WideShapes Go.ChangeAt Go.RowKit
set_option maxRecDepth 100000 in
theorem lifted (os : Os) (started : os.Started) (H : Type) (enc : TypeId × Value → H) :
    ReturnsInHanded {} Tryd.checked os 4 .any (fun w args => (Rows.wideMulsSpec.pre enc Tryd.prog Tryd.f4 [] false w args ∧ laidMetH Tryd.prog laidRows w) ∧ sizedMet enc Tryd.prog Tryd.f4 (OpenSpec.ofChange Rows.wideMulsSpec) false w args) (Rows.wideMulsSpec.post enc Tryd.prog Tryd.f4 false true false false) := by
  refine returnsInHanded_of_change_and (C := Tryd.checked) (X := fun w _ => laidMetH Tryd.prog laidRows w) (fun _ _ _ hh h => h.of_heap hh) own started (by kernel_rfl) Tryd.func4
    (ChangeSpec.witness_shaped (enc := enc) (C := Tryd.checked) (os := os) (X := fun w _ => laidMetH Tryd.prog laidRows w) false (World.doorLaid Tryd.prog 400 os) #[.agg #[.int .u64 0, .int .u64 0], .int .u64 0] 8 rfl (door_shaped os _) (by kernel_rfl) (by kernel_rfl) (by kernel_rfl) (door_met os _)) ?_
  intro W base args ds gs before hval0 hW hcnd hsz0 hL hholds
  have hsz : (DataW.weightsEach Tryd.prog (Tryd.f4.params.toList ++ Rows.wideMulsSpec.plain.varTypes Tryd.prog) (ds ++ gs)).all (· ≤ reachBytes) = true := hsz0
  have ht : Pow10 W := tab_of_laid hL
  have hval : ∀ (j : Nat) t v, Tryd.f4.params[j]? = some t → args[j]? = some v → Value.okWide Tryd.prog W .any base t v := hval0
  have hW' := hW
  obtain ⟨p, q, hA0, hV, rfl, hfz, hnd⟩ := hW
  have hA : DataW.TrodAll enc Tryd.prog W 0 (fun _ => true) true Tryd.f4.params.toList args.toList ds p := hA0
  rw [Tryd.params4] at hA hval hsz
  obtain ⟨v0, vs0, d0, ds0, p0, q0, hargs, rfl, rfl, h0, r0⟩ := trodAll_cons hA
  obtain ⟨v1, vs1, d1, ds1, p1, q1, rfl, rfl, rfl, h1, r1⟩ := trodAll_cons r0
  obtain ⟨rfl, rfl, rfl⟩ := trodAll_nil r1
  obtain rfl : args = #[v0, v1] := by cases args; simp_all
  obtain ⟨rfl, rfl⟩ := trodVars_none hV
  obtain ⟨s0, rfl, wf0⟩ := open_wide (hval 0 24 v0 rfl rfl) h0
  obtain ⟨s1, rfl, wf1⟩ := open_u64 (hval 1 22 v1 rfl rfl) h1
  clear hA0 hval0
  refine (mulsL s0 s1 wf0 wf1 W ht).mono fun e W' ⟨he, hb⟩ => ?_
  subst he
  exact ⟨_, rfl, law_post laidOut (by kernel_rfl) (by kernel_rfl) rfl Tryd.underlying4 hW' rfl rfl rfl hb⟩

theorem said : Rows.WideMulsSaid :=
  OpenClaim.holds_of_wide 4 Tryd.f4 rfl rfl rfl rfl rfl rfl rfl ⟨rfl, rfl, rfl, rfl, rfl⟩ rfl rfl rfl rfl rfl (by kernel_rfl) Tryd.func4 (by kernel_rfl)
    (of_decide_eq_true (by kernel_rfl)) (by unfold Func.isWrapper; first | (rw [if_pos (by decide +kernel)]; kernel_rfl) | (rw [if_neg (by decide +kernel)]; exact ⟨rfl, rfl⟩))
    (fun os started H enc _ => lifted os started H enc)

theorem holds : Rows.WideMulsCardSaid :=
  Claim7.holds_tied_plain_at .later [] [.data, .data, .data] true _ false
    said (fun _ h => by cases h) (by kernel_rfl) (fun _ h => by cases h) wideMuls_row_tie rfl ⟨rfl, rfl⟩ (by kernel_rfl) rfl
    (fun f fn hf hfn => by
      obtain rfl : f = 4 := Option.some.inj ((show Tryd.prog.funcNamed "soffit/soffitlaw07.WideMuls" = some 4 by kernel_rfl).symm.trans hf) |>.symm
      obtain rfl : fn = Tryd.f4 := (Option.some.inj (Tryd.func4.symm.trans hfn)).symm
      exact ⟨by kernel_rfl, fun j t ht => by
        rw [Tryd.params4] at ht
        have hm : t ∈ [24, 22] := by simpa using Array.mem_of_getElem? ht
        have hall : ([24, 22].all fun u => !Tryd.prog.wantsStandIn u) = true := by kernel_rfl
        exact (show Tryd.prog.wantsStandIn t = false by simpa using List.all_eq_true.1 hall t hm)⟩)
    (by kernel_rfl)
end Go.Proofs.YtofibaomjidieaaDoor.wideMuls
