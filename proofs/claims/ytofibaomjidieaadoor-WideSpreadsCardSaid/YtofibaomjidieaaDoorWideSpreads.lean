/-
  WideSpreads: Times of a sum is the sum of both Times where these have room, and Times of a word is Mul; the calls of fixed answer as they should. The three listed variables are tied to the program's text.
-/
import Derived.Test.YtofibaomjidieaaDoorFixed
import Derived.Test.YtofibaomjidieaaDoorLaid
import Derived.Test.YtofibaomjidieaaDoorCards
import Derived.Test.YtofibaomjidieaaDoorTie
import Derived.Deep.RegionWith
import Derived.Deep.DeepCutAuto
import Derived.SevenTiedAt
import Derived.Stop.Joined
namespace Go.Proofs.YtofibaomjidieaaDoor
open Go.RowKit
set_option linter.unusedSimpArgs false
set_option linter.unusedVariables false
theorem addX {a b : Wd} (ha : a.Wf) (hb : b.Wf) {x : Wd} {r : Bool} (hr : fits2 (a.val + b.val) = r) (hx : wdOf (a.val + b.val) = x) (w : World) : Calls Tryd.prog 11 #[a.v, b.v] w fun e w' => e = .returned (.tuple #[x.v, .bool r]) ∧ Below w.heap.size w w' := by
  subst hr hx; exact addP a b ha hb w
theorem timesX {a : Wd} {b : Nat} (ha : a.Wf) (hb : b < 18446744073709551616) {x : Wd} {r : Bool} (hr : fits2 (a.val * b) = r) (hx : wdOf (a.val * b) = x) (w : World) : Calls Tryd.prog 17 #[a.v, .int .u64 (b : Int)] w fun e w' => e = .returned (.tuple #[x.v, .bool r]) ∧ Below w.heap.size w w' := by
  subst hr hx; exact timesP a b ha hb w
theorem cmpX {a b : Wd} (ha : a.Wf) (hb : b.Wf) {c : Int} (hc : cmpD a b = c) (w : World) : Calls Tryd.prog 14 #[a.v, b.v] w fun e w' => e = .returned (.int .i64 c) ∧ Below w.heap.size w w' := by
  subst hc; exact compareP a b ha hb w
theorem cmp_ge {a b : Wd} (h : b.val ≤ a.val) : decide (0 ≤ cmpD a b) = true := by
  unfold cmpD; by_cases e : a.val = b.val
  · rw [if_pos e]; rfl
  · rw [if_neg e, if_neg (by omega)]; rfl
theorem cmp_nlt {a b : Wd} (h : b.val ≤ a.val) : decide (cmpD a b < 0) = false := by
  unfold cmpD; by_cases e : a.val = b.val
  · rw [if_pos e]; rfl
  · rw [if_neg e, if_neg (by omega)]; rfl
theorem cmp_lt {a b : Wd} (h : a.val < b.val) : decide (0 ≤ cmpD a b) = false := by
  unfold cmpD; rw [if_neg (by omega), if_pos h]; rfl
theorem fits_f {n : Nat} (h : 340282366920938463463374607431768211456 ≤ n) : fits2 n = false := by simp only [fits2, decide_eq_false_iff_not]; omega
theorem of_fits {n : Nat} (h : fits2 n = true) : n < 340282366920938463463374607431768211456 := by simpa [fits2] using h
theorem of_nfits {n : Nat} (h : fits2 n = false) : 340282366920938463463374607431768211456 ≤ n := by
  have : ¬ n < 340282366920938463463374607431768211456 := by simpa [fits2] using h
  omega
set_option maxHeartbeats 8000000 in
theorem spreadsL (a b : Wd) (n : Nat) (ha : a.Wf) (hb : b.Wf) (hn : n < 18446744073709551616) (w : World) (ht : Pow10 w) : Calls Tryd.prog 10 #[a.v, b.v, .int .u64 (n : Int)] w fun e w' => e = .returned (.bool true) ∧ Below w.heap.size w w' := by
  have B0 : Below w.heap.size w ((w.alloc (.cells #[.int .u64 (a.hi : Int), .int .u64 (a.lo : Int)] 24)).alloc (.cells #[.int .u64 (b.hi : Int), .int .u64 (b.lo : Int)] 24)) := below_alloc (below_alloc (Below.refl _ _) _) _
  obtain ⟨x, hx⟩ : ∃ x, wdOf (a.val + b.val) = x := ⟨_, rfl⟩
  obtain ⟨y, hy⟩ : ∃ y, wdOf (a.val * n) = y := ⟨_, rfl⟩
  obtain ⟨z, hz⟩ : ∃ z, wdOf (b.val * n) = z := ⟨_, rfl⟩
  obtain ⟨ok, hab⟩ : ∃ r, fits2 (a.val + b.val) = r := ⟨_, rfl⟩
  obtain ⟨is, hay⟩ : ∃ r, fits2 (a.val * n) = r := ⟨_, rfl⟩
  obtain ⟨was, hbz⟩ : ∃ r, fits2 (b.val * n) = r := ⟨_, rfl⟩
  have wx : x.Wf := hx ▸ wdOf_wf _
  have wy : y.Wf := hy ▸ wdOf_wf _
  have wz : z.Wf := hz ▸ wdOf_wf _
  have wl : (⟨0, a.lo⟩ : Wd).Wf := ⟨by show (0 : Nat) < _; omega, ha.lo⟩
  have hlv : (⟨0, a.lo⟩ : Wd).val = a.lo := by simp [Wd.val]
  have hll : a.lo * n < 340282366920938463463374607431768211456 := by
    have := Nat.mul_le_mul (Nat.le_pred_of_lt ha.lo) (Nat.le_pred_of_lt hn)
    have e : (18446744073709551616 - 1) * (18446744073709551616 - 1) < 340282366920938463463374607431768211456 := by decide
    exact Nat.lt_of_le_of_lt this e
  have hlm : fits2 ((⟨0, a.lo⟩ : Wd).val * n) = true := by rw [hlv]; simp only [fits2, decide_eq_true_eq]; exact hll
  obtain ⟨m, hm⟩ : ∃ m, wdOf ((⟨0, a.lo⟩ : Wd).val * n) = m := ⟨_, rfl⟩
  have hmul : ∀ W, Calls Tryd.prog 19 #[.int .u64 (a.lo : Int), .int .u64 (n : Int)] W fun e w' => e = .returned m.v ∧ Below W.heap.size W w' := fun W => by
    have h := mulP a.lo n ha.lo hn W
    have e : wd (a.lo * n) = m := by rw [← hm, wdOf, if_pos hlm, hlv]
    rwa [e] at h
  obtain ⟨s, hse⟩ : ∃ s, wdOf (x.val * n) = s := ⟨_, rfl⟩
  obtain ⟨r, hxn⟩ : ∃ r, fits2 (x.val * n) = r := ⟨_, rfl⟩
  have hfin : ok = true → is = true → was = true → fits2 (y.val + z.val) = r ∧ wdOf (y.val + z.val) = s := fun h1 h2 h3 => by
    have e1 : x.val = a.val + b.val := hx ▸ wdOf_val (hab.trans h1)
    have e2 : y.val = a.val * n := hy ▸ wdOf_val (hay.trans h2)
    have e3 : z.val = b.val * n := hz ▸ wdOf_val (hbz.trans h3)
    have e : y.val + z.val = x.val * n := by rw [e1, e2, e3, Nat.add_mul]
    rw [e]; exact ⟨hxn, hse⟩
  have HF := Lib.hid hfin
  clear hfin hlv hll
  go_enter Tryd.func10, Tryd.ntmps10
  go_wp2_with (first
    | (go_at_call 11; with_reducible refine (addX ha hb hab hx _).mono ?_; rintro e w1 ⟨rfl, hb1⟩; obtain ⟨hcc1, hff1⟩ := bcell hb1; have hs1 := hb1.size; (try simp at hs1); (have m1_0 : w.heap.size < w1.heap.size := (by omega)); (have m1_1 : w.heap.size + 1 < w1.heap.size := (by omega)); have B1 : Below w.heap.size w w1 := below_step (B0) hb1)
    | (go_at_call 17; with_reducible refine (timesX ha hn hay hy _).mono ?_; rintro e w2 ⟨rfl, hb2⟩; obtain ⟨hcc2, hff2⟩ := bcell hb2; have hs2 := hb2.size; (try simp at hs2); (have m2_0 : w.heap.size < w2.heap.size := (by omega)); (have m2_1 : w.heap.size + 1 < w2.heap.size := (by omega)); (have m2_2 : w1.heap.size < w2.heap.size := (by omega)); have B2 : Below w.heap.size w w2 := below_step (below_alloc B1 _) hb2)
    | (go_at_call 17; with_reducible refine (timesX hb hn hbz hz _).mono ?_; rintro e w3 ⟨rfl, hb3⟩; obtain ⟨hcc3, hff3⟩ := bcell hb3; have hs3 := hb3.size; (try simp at hs3); (have m3_0 : w.heap.size < w3.heap.size := (by omega)); (have m3_1 : w.heap.size + 1 < w3.heap.size := (by omega)); (have m3_2 : w1.heap.size < w3.heap.size := (by omega)); (have m3_3 : w2.heap.size < w3.heap.size := (by omega)); have B3 : Below w.heap.size w w3 := below_step (below_alloc B2 _) hb3)
    | (go_at_call 16; with_reducible refine (ofP a.lo _).mono ?_; rintro e w4 ⟨rfl, hb4⟩; obtain ⟨hcc4, hff4⟩ := bcell hb4; have hs4 := hb4.size; (try simp at hs4); (have m4_0 : w.heap.size < w4.heap.size := (by omega)); (have m4_1 : w.heap.size + 1 < w4.heap.size := (by omega)); (have m4_2 : w1.heap.size < w4.heap.size := (by omega)); (have m4_3 : w2.heap.size < w4.heap.size := (by omega)); (have m4_4 : w3.heap.size < w4.heap.size := (by omega)); have B4 : Below w.heap.size w w4 := below_step (below_alloc B3 _) hb4)
    | (go_at_call 17; with_reducible refine (timesX wl hn hlm hm _).mono ?_; rintro e w5 ⟨rfl, hb5⟩; obtain ⟨hcc5, hff5⟩ := bcell hb5; have hs5 := hb5.size; (try simp at hs5); (have m5_0 : w.heap.size < w5.heap.size := (by omega)); (have m5_1 : w.heap.size + 1 < w5.heap.size := (by omega)); (have m5_2 : w1.heap.size < w5.heap.size := (by omega)); (have m5_3 : w2.heap.size < w5.heap.size := (by omega)); (have m5_4 : w3.heap.size < w5.heap.size := (by omega)); have B5 : Below w.heap.size w w5 := below_step (B4) hb5))
  go_region_held3 (fun w' => Below w.heap.size w w' ∧ w'.cell? ⟨w.heap.size, 1, none⟩ = some (.int .u64 (a.lo : Int)) ∧ w'.cell? ⟨w1.heap.size, 0, none⟩ = some (.int .u64 (x.hi : Int)) ∧ w'.cell? ⟨w1.heap.size, 1, none⟩ = some (.int .u64 (x.lo : Int)) ∧ w'.cell? ⟨w2.heap.size, 0, none⟩ = some (.int .u64 (y.hi : Int)) ∧ w'.cell? ⟨w2.heap.size, 1, none⟩ = some (.int .u64 (y.lo : Int)) ∧ w'.cell? ⟨w3.heap.size, 0, none⟩ = some (.int .u64 (z.hi : Int)) ∧ w'.cell? ⟨w3.heap.size, 1, none⟩ = some (.int .u64 (z.lo : Int)) ∧ w'.cell? ⟨w5.heap.size, 0, none⟩ = some (.int .u64 (m.hi : Int)) ∧ w'.cell? ⟨w5.heap.size, 1, none⟩ = some (.int .u64 (m.lo : Int)))
    (first | exact keepB9 (by assumption) (by assumption) | exact keepA9 (by assumption) | (refine ⟨by repeat (first | assumption | exact Below.refl _ _ | with_reducible apply Below.drew | with_reducible apply below_alloc), ?_⟩; go_simp))
    (first
      | (go_at_call 13; with_reducible refine (fixedL _ (pow_S (by assumption) ht)).mono ?_; rintro e w6 ⟨rfl, hb6⟩; obtain ⟨hcc6, hff6⟩ := bcell hb6; have hs6 := hb6.size; (try simp at hs6); (have m6_0 : w.heap.size < w6.heap.size := (by omega)); (have m6_1 : w.heap.size + 1 < w6.heap.size := (by omega)); (have m6_2 : w1.heap.size < w6.heap.size := (by omega)); (have m6_3 : w2.heap.size < w6.heap.size := (by omega)); (have m6_4 : w3.heap.size < w6.heap.size := (by omega)); (have m6_5 : w5.heap.size < w6.heap.size := (by omega)))
      | (go_at_call 19; with_reducible refine (hmul _).mono ?_; rintro e w7 ⟨rfl, hb7⟩; obtain ⟨hcc7, hff7⟩ := bcell hb7; have hs7 := hb7.size; (try simp at hs7); (have m7_0 : w.heap.size < w7.heap.size := (by omega)); (have m7_1 : w.heap.size + 1 < w7.heap.size := (by omega)); (have m7_2 : w1.heap.size < w7.heap.size := (by omega)); (have m7_3 : w2.heap.size < w7.heap.size := (by omega)); (have m7_4 : w3.heap.size < w7.heap.size := (by omega)); (have m7_5 : w5.heap.size < w7.heap.size := (by omega))))
  rename_i hh
  obtain ⟨B7, q1, q2, q3, q4, q5, q6, q7, q8, q9⟩ := hh
  cases ok
  · go_wp2
    go_ret
    exact ⟨by simp, B7⟩
  · cases is
    · go_wp2
      go_ret
      exact ⟨by simp, B7⟩
    · cases was
      · go_wp2
        go_ret
        exact ⟨by simp, B7⟩
      · obtain ⟨hyz, hs⟩ := HF.out rfl rfl rfl
        go_wp2_with (first
          | (go_at_call 11; with_reducible refine (addX wy wz hyz hs _).mono ?_; rintro e w8 ⟨rfl, hb8⟩; obtain ⟨hcc8, hff8⟩ := bcell hb8; have hs8 := hb8.size; (try simp at hs8); (have m8_0 : w.heap.size < w8.heap.size := (by omega)); (have m8_1 : w.heap.size + 1 < w8.heap.size := (by omega)); (have m8_2 : w1.heap.size < w8.heap.size := (by omega)); (have m8_3 : w2.heap.size < w8.heap.size := (by omega)); (have m8_4 : w3.heap.size < w8.heap.size := (by omega)); (have m8_5 : w5.heap.size < w8.heap.size := (by omega)); have B8 : Below w.heap.size w w8 := below_step (B7) hb8)
          | (go_at_call 17; with_reducible refine (timesX wx hn hxn hse _).mono ?_; rintro e w9 ⟨rfl, hb9⟩; obtain ⟨hcc9, hff9⟩ := bcell hb9; have hs9 := hb9.size; (try simp at hs9); (have m9_0 : w.heap.size < w9.heap.size := (by omega)); (have m9_1 : w.heap.size + 1 < w9.heap.size := (by omega)); (have m9_2 : w1.heap.size < w9.heap.size := (by omega)); (have m9_3 : w2.heap.size < w9.heap.size := (by omega)); (have m9_4 : w3.heap.size < w9.heap.size := (by omega)); (have m9_5 : w5.heap.size < w9.heap.size := (by omega)); (have m9_6 : w8.heap.size < w9.heap.size := (by omega)); have B9 : Below w.heap.size w w9 := below_step (below_alloc B8 _) hb9))
        go_ret
        refine ⟨by simp, ?_⟩
        repeat (first | assumption | with_reducible apply below_alloc)
end Go.Proofs.YtofibaomjidieaaDoor
set_option linter.unusedVariables false
namespace Go.Proofs.YtofibaomjidieaaDoor.wideSpreads
open Go.ChangeShapes Go.WideShapes Go.ChangeAt Go.RowKit
set_option maxRecDepth 100000 in
theorem lifted (os : Os) (started : os.Started) (H : Type) (enc : TypeId × Value → H) :
    ReturnsInHanded {} Tryd.checked os 10 .any (fun w args => (Rows.wideSpreadsSpec.pre enc Tryd.prog Tryd.f10 [] false w args ∧ laidMetH Tryd.prog laidRows w) ∧ sizedMet enc Tryd.prog Tryd.f10 (OpenSpec.ofChange Rows.wideSpreadsSpec) false w args) (Rows.wideSpreadsSpec.post enc Tryd.prog Tryd.f10 false true false false) := by
  refine returnsInHanded_of_change_and (C := Tryd.checked) (X := fun w _ => laidMetH Tryd.prog laidRows w) (fun _ _ _ hh h => h.of_heap hh) own started (by kernel_rfl) Tryd.func10
    (ChangeSpec.witness_shaped (enc := enc) (C := Tryd.checked) (os := os) (X := fun w _ => laidMetH Tryd.prog laidRows w) false (World.doorLaid Tryd.prog 400 os) #[.agg #[.int .u64 0, .int .u64 0], .agg #[.int .u64 0, .int .u64 0], .int .u64 0] 8 rfl (door_shaped os _) (by kernel_rfl) (by kernel_rfl) (by kernel_rfl) (door_met os _)) ?_
  intro W base args ds gs before hval0 hW hcnd hsz0 hL hholds
  have hsz : (DataW.weightsEach Tryd.prog (Tryd.f10.params.toList ++ Rows.wideSpreadsSpec.plain.varTypes Tryd.prog) (ds ++ gs)).all (· ≤ reachBytes) = true := hsz0
  have ht : Pow10 W := tab_of_laid hL
  have hval : ∀ (j : Nat) t v, Tryd.f10.params[j]? = some t → args[j]? = some v → Value.okWide Tryd.prog W .any base t v := hval0
  have hW' := hW
  obtain ⟨p, q, hA0, hV, rfl, hfz, hnd⟩ := hW
  have hA : DataW.TrodAll enc Tryd.prog W 0 (fun _ => true) true Tryd.f10.params.toList args.toList ds p := hA0
  rw [Tryd.params10] at hA hval hsz
  obtain ⟨v0, vs0, d0, ds0, p0, q0, hargs, rfl, rfl, h0, r0⟩ := trodAll_cons hA
  obtain ⟨v1, vs1, d1, ds1, p1, q1, rfl, rfl, rfl, h1, r1⟩ := trodAll_cons r0
  obtain ⟨v2, vs2, d2, ds2, p2, q2, rfl, rfl, rfl, h2, r2⟩ := trodAll_cons r1
  obtain ⟨rfl, rfl, rfl⟩ := trodAll_nil r2
  obtain rfl : args = #[v0, v1, v2] := by cases args; simp_all
  obtain ⟨rfl, rfl⟩ := trodVars_none hV
  obtain ⟨s0, rfl, wf0⟩ := open_wide (hval 0 24 v0 rfl rfl) h0
  obtain ⟨s1, rfl, wf1⟩ := open_wide (hval 1 24 v1 rfl rfl) h1
  obtain ⟨s2, rfl, wf2⟩ := open_u64 (hval 2 22 v2 rfl rfl) h2
  clear hA0 hval0
  refine (spreadsL s0 s1 s2 wf0 wf1 wf2 W ht).mono fun e W' ⟨he, hb⟩ => ?_
  subst he
  exact ⟨_, rfl, law_post laidOut (by kernel_rfl) (by kernel_rfl) rfl Tryd.underlying4 hW' rfl rfl rfl hb⟩

theorem said : Rows.WideSpreadsSaid :=
  OpenClaim.holds_of_wide 10 Tryd.f10 rfl rfl rfl rfl rfl rfl rfl ⟨rfl, rfl, rfl, rfl, rfl⟩ rfl rfl rfl rfl rfl (by kernel_rfl) Tryd.func10 (by kernel_rfl)
    (of_decide_eq_true (by kernel_rfl)) (by unfold Func.isWrapper; first | (rw [if_pos (by decide +kernel)]; kernel_rfl) | (rw [if_neg (by decide +kernel)]; exact ⟨rfl, rfl⟩))
    (fun os started H enc _ => lifted os started H enc)

theorem holds : Rows.WideSpreadsCardSaid :=
  Claim7.holds_tied_plain_at .later [] [.data, .data, .data] true _ false
    said (fun _ h => by cases h) (by kernel_rfl) (fun _ h => by cases h) wideSpreads_row_tie rfl ⟨rfl, rfl⟩ (by kernel_rfl) rfl
    (fun f fn hf hfn => by
      obtain rfl : f = 10 := Option.some.inj ((show Tryd.prog.funcNamed "soffit/soffitlaw07.WideSpreads" = some 10 by kernel_rfl).symm.trans hf) |>.symm
      obtain rfl : fn = Tryd.f10 := (Option.some.inj (Tryd.func10.symm.trans hfn)).symm
      exact ⟨by kernel_rfl, fun j t ht => by
        rw [Tryd.params10] at ht
        have hm : t ∈ [24, 24, 22] := by simpa using Array.mem_of_getElem? ht
        have hall : ([24, 24, 22].all fun u => !Tryd.prog.wantsStandIn u) = true := by kernel_rfl
        exact (show Tryd.prog.wantsStandIn t = false by simpa using List.all_eq_true.1 hall t hm)⟩)
    (by kernel_rfl)
end Go.Proofs.YtofibaomjidieaaDoor.wideSpreads
