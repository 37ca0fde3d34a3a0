/-
  WideSums: sums in any order are the same, and have room or not alike, and are at least either; the calls of fixed answer as they should. The three listed variables are tied to the program's text.
-/
import Derived.Test.YtofibaomjidieaaDoorFixed
import Derived.Test.YtofibaomjidieaaDoorLaid
import Derived.Test.YtofibaomjidieaaDoorCards
import Derived.Test.YtofibaomjidieaaDoorTie
import Derived.Deep.RegionWith
import Derived.Deep.DeepCutAuto
import Derived.SevenTiedAt
import Derived.Stop.Joined
namespace Go.Proofs.YtofibaomjidieaaDoor
open Go.RowKit
set_option linter.unusedSimpArgs false
set_option linter.unusedVariables false
theorem addX {a b : Wd} (ha : a.Wf) (hb : b.Wf) {x : Wd} {r : Bool} (hr : fits2 (a.val + b.val) = r) (hx : wdOf (a.val + b.val) = x) (w : World) : Calls Tryd.prog 11 #[a.v, b.v] w fun e w' => e = .returned (.tuple #[x.v, .bool r]) ∧ Below w.heap.size w w' := by
  subst hr hx; exact addP a b ha hb w
theorem timesX {a : Wd} {b : Nat} (ha : a.Wf) (hb : b < 18446744073709551616) {x : Wd} {r : Bool} (hr : fits2 (a.val * b) = r) (hx : wdOf (a.val * b) = x) (w : World) : Calls Tryd.prog 17 #[a.v, .int .u64 (b : Int)] w fun e w' => e = .returned (.tuple #[x.v, .bool r]) ∧ Below w.heap.size w w' := by
  subst hr hx; exact timesP a b ha hb w
theorem cmpX {a b : Wd} (ha : a.Wf) (hb : b.Wf) {c : Int} (hc : cmpD a b = c) (w : World) : Calls Tryd.prog 14 #[a.v, b.v] w fun e w' => e = .returned (.int .i64 c) ∧ Below w.heap.size w w' := by
  subst hc; exact compareP a b ha hb w
theorem cmp_ge {a b : Wd} (h : b.val ≤ a.val) : decide (0 ≤ cmpD a b) = true := by
  unfold cmpD; by_cases e : a.val = b.val
  · rw [if_pos e]; rfl
  · rw [if_neg e, if_neg (by omega)]; rfl
theorem cmp_nlt {a b : Wd} (h : b.val ≤ a.val) : decide (cmpD a b < 0) = false := by
  unfold cmpD; by_cases e : a.val = b.val
  · rw [if_pos e]; rfl
  · rw [if_neg e, if_neg (by omega)]; rfl
theorem cmp_lt {a b : Wd} (h : a.val < b.val) : decide (0 ≤ cmpD a b) = false := by
  unfold cmpD; rw [if_neg (by omega), if_pos h]; rfl
theorem fits_f {n : Nat} (h : 340282366920938463463374607431768211456 ≤ n) : fits2 n = false := by simp only [fits2, decide_eq_false_iff_not]; omega
theorem of_fits {n : Nat} (h : fits2 n = true) : n < 340282366920938463463374607431768211456 := by simpa [fits2] using h
theorem of_nfits {n : Nat} (h : fits2 n = false) : 340282366920938463463374607431768211456 ≤ n := by
  have : ¬ n < 340282366920938463463374607431768211456 := by simpa [fits2] using h
  omega
set_option maxHeartbeats 8000000 in
theorem sumsL (a b c : Wd) (ha : a.Wf) (hb : b.Wf) (hc : c.Wf) (w : World) (ht : Pow10 w) : Calls Tryd.prog 9 #[a.v, b.v, c.v] w fun e w' => e = .returned (.bool true) ∧ Below w.heap.size w w' := by
  have h1 := val_lt ha; have h2 := val_lt hb; have h3 := val_lt hc
  have hW : (⟨9223372036854775808, 0⟩ : Wd).Wf := ⟨by decide, by decide⟩
  have hWv : (⟨9223372036854775808, 0⟩ : Wd).val = 170141183460469231731687303715884105728 := by decide
  have B0 : Below w.heap.size w (((w.alloc (.cells #[.int .u64 (a.hi : Int), .int .u64 (a.lo : Int)] 24)).alloc (.cells #[.int .u64 (b.hi : Int), .int .u64 (b.lo : Int)] 24)).alloc (.cells #[.int .u64 (c.hi : Int), .int .u64 (c.lo : Int)] 24)) := below_alloc (below_alloc (below_alloc (Below.refl _ _) _) _) _
  obtain ⟨x, hx⟩ : ∃ x, wdOf (a.val + b.val) = x := ⟨_, rfl⟩
  have hy : wdOf (b.val + a.val) = x := by rw [Nat.add_comm]; exact hx
  have wx : x.Wf := hx ▸ wdOf_wf _
  cases hab : fits2 (a.val + b.val)
  · have hba : fits2 (b.val + a.val) = false := by rw [Nat.add_comm]; exact hab
    have hab' := of_nfits hab
    obtain ⟨c1, hc1⟩ : ∃ c1, cmpD a ⟨9223372036854775808, 0⟩ = c1 := ⟨_, rfl⟩
    obtain ⟨c2, hc2⟩ : ∃ c2, cmpD b ⟨9223372036854775808, 0⟩ = c2 := ⟨_, rfl⟩
    have hor : decide (0 ≤ c1) = true ∨ (decide (0 ≤ c1) = false ∧ decide (0 ≤ c2) = true) := by
      rcases Nat.lt_or_ge a.val 170141183460469231731687303715884105728 with q | q
      · exact .inr ⟨hc1 ▸ cmp_lt (by rw [hWv]; exact q), hc2 ▸ cmp_ge (by rw [hWv]; omega)⟩
      · exact .inl (hc1 ▸ cmp_ge (by rw [hWv]; exact q))
    have hk1 : ∀ W, Calls Tryd.prog 14 #[a.v, .agg #[.int .u64 9223372036854775808, .int .u64 0]] W fun e w' => e = .returned (.int .i64 c1) ∧ Below W.heap.size W w' := fun W => cmpX ha hW hc1 W
    have hk2 : ∀ W, Calls Tryd.prog 14 #[b.v, .agg #[.int .u64 9223372036854775808, .int .u64 0]] W fun e w' => e = .returned (.int .i64 c2) ∧ Below W.heap.size W w' := fun W => cmpX hb hW hc2 W
    clear hW hWv
    rcases hor with u1 | ⟨u1, u2⟩
    · go_enter Tryd.func9, Tryd.ntmps9
      go_wp2_with (first
        | (go_at_call 11; with_reducible refine (addX ha hb hab hx _).mono ?_; rintro e w1 ⟨rfl, hb1⟩; obtain ⟨hcc1, hff1⟩ := bcell hb1; have hs1 := hb1.size; (try simp at hs1); (have m1_0 : w.heap.size < w1.heap.size := (by omega)); (have m1_1 : w.heap.size + 1 < w1.heap.size := (by omega)); (have m1_2 : w.heap.size + 1 + 1 < w1.heap.size := (by omega)); have B1 : Below w.heap.size w w1 := below_step (B0) hb1)
        | (go_at_call 11; with_reducible refine (addX hb ha hba hy _).mono ?_; rintro e w2 ⟨rfl, hb2⟩; obtain ⟨hcc2, hff2⟩ := bcell hb2; have hs2 := hb2.size; (try simp at hs2); (have m2_0 : w.heap.size < w2.heap.size := (by omega)); (have m2_1 : w.heap.size + 1 < w2.heap.size := (by omega)); (have m2_2 : w.heap.size + 1 + 1 < w2.heap.size := (by omega)); (have m2_3 : w1.heap.size < w2.heap.size := (by omega)); have B2 : Below w.heap.size w w2 := below_step (below_alloc B1 _) hb2)
        | (go_at_call 13; refine (fixedL _ (ht.step (below_alloc B2 _))).mono ?_; rintro e w3 ⟨rfl, hb3⟩; obtain ⟨hcc3, hff3⟩ := bcell hb3; have hs3 := hb3.size; (try simp at hs3); (have m3_0 : w.heap.size < w3.heap.size := (by omega)); (have m3_1 : w.heap.size + 1 < w3.heap.size := (by omega)); (have m3_2 : w.heap.size + 1 + 1 < w3.heap.size := (by omega)); (have m3_3 : w1.heap.size < w3.heap.size := (by omega)); (have m3_4 : w2.heap.size < w3.heap.size := (by omega)); have B3 : Below w.heap.size w w3 := below_step (below_alloc B2 _) hb3)
        | (go_at_call 14; with_reducible refine (hk1 _).mono ?_; rintro e w4 ⟨rfl, hb4⟩; obtain ⟨hcc4, hff4⟩ := bcell hb4; have hs4 := hb4.size; (try simp at hs4); (have m4_0 : w.heap.size < w4.heap.size := (by omega)); (have m4_1 : w.heap.size + 1 < w4.heap.size := (by omega)); (have m4_2 : w.heap.size + 1 + 1 < w4.heap.size := (by omega)); (have m4_3 : w1.heap.size < w4.heap.size := (by omega)); (have m4_4 : w2.heap.size < w4.heap.size := (by omega)); have B4 : Below w.heap.size w w4 := below_step (B3) hb4))
      all_goals
        go_ret
        refine ⟨by simp, ?_⟩
        repeat (first | assumption | with_reducible apply below_alloc)
    · go_enter Tryd.func9, Tryd.ntmps9
      go_wp2_with (first
        | (go_at_call 11; with_reducible refine (addX ha hb hab hx _).mono ?_; rintro e w1 ⟨rfl, hb1⟩; obtain ⟨hcc1, hff1⟩ := bcell hb1; have hs1 := hb1.size; (try simp at hs1); (have m1_0 : w.heap.size < w1.heap.size := (by omega)); (have m1_1 : w.heap.size + 1 < w1.heap.size := (by omega)); (have m1_2 : w.heap.size + 1 + 1 < w1.heap.size := (by omega)); have B1 : Below w.heap.size w w1 := below_step (B0) hb1)
        | (go_at_call 11; with_reducible refine (addX hb ha hba hy _).mono ?_; rintro e w2 ⟨rfl, hb2⟩; obtain ⟨hcc2, hff2⟩ := bcell hb2; have hs2 := hb2.size; (try simp at hs2); (have m2_0 : w.heap.size < w2.heap.size := (by omega)); (have m2_1 : w.heap.size + 1 < w2.heap.size := (by omega)); (have m2_2 : w.heap.size + 1 + 1 < w2.heap.size := (by omega)); (have m2_3 : w1.heap.size < w2.heap.size := (by omega)); have B2 : Below w.heap.size w w2 := below_step (below_alloc B1 _) hb2)
        | (go_at_call 13; refine (fixedL _ (ht.step (below_alloc B2 _))).mono ?_; rintro e w3 ⟨rfl, hb3⟩; obtain ⟨hcc3, hff3⟩ := bcell hb3; have hs3 := hb3.size; (try simp at hs3); (have m3_0 : w.heap.size < w3.heap.size := (by omega)); (have m3_1 : w.heap.size + 1 < w3.heap.size := (by omega)); (have m3_2 : w.heap.size + 1 + 1 < w3.heap.size := (by omega)); (have m3_3 : w1.heap.size < w3.heap.size := (by omega)); (have m3_4 : w2.heap.size < w3.heap.size := (by omega)); have B3 : Below w.heap.size w w3 := below_step (below_alloc B2 _) hb3)
        | (go_at_call 14; with_reducible refine (hk1 _).mono ?_; rintro e w4 ⟨rfl, hb4⟩; obtain ⟨hcc4, hff4⟩ := bcell hb4; have hs4 := hb4.size; (try simp at hs4); (have m4_0 : w.heap.size < w4.heap.size := (by omega)); (have m4_1 : w.heap.size + 1 < w4.heap.size := (by omega)); (have m4_2 : w.heap.size + 1 + 1 < w4.heap.size := (by omega)); (have m4_3 : w1.heap.size < w4.heap.size := (by omega)); (have m4_4 : w2.heap.size < w4.heap.size := (by omega)); have B4 : Below w.heap.size w w4 := below_step (B3) hb4)
        | (go_at_call 14; with_reducible refine (hk2 _).mono ?_; rintro e w5 ⟨rfl, hb5⟩; obtain ⟨hcc5, hff5⟩ := bcell hb5; have hs5 := hb5.size; (try simp at hs5); (have m5_0 : w.heap.size < w5.heap.size := (by omega)); (have m5_1 : w.heap.size + 1 < w5.heap.size := (by omega)); (have m5_2 : w.heap.size + 1 + 1 < w5.heap.size := (by omega)); (have m5_3 : w1.heap.size < w5.heap.size := (by omega)); (have m5_4 : w2.heap.size < w5.heap.size := (by omega)); have B5 : Below w.heap.size w w5 := below_step (B4) hb5))
      all_goals
        go_ret
        refine ⟨by simp, ?_⟩
        repeat (first | assumption | with_reducible apply below_alloc)
  · have hba : fits2 (b.val + a.val) = true := by rw [Nat.add_comm]; exact hab
    have hxv : x.val = a.val + b.val := hx ▸ wdOf_val hab
    obtain ⟨c1, hc1⟩ : ∃ c1, cmpD x a = c1 := ⟨_, rfl⟩
    obtain ⟨c2, hc2⟩ : ∃ c2, cmpD x b = c2 := ⟨_, rfl⟩
    have u1 : decide (c1 < 0) = false := hc1 ▸ cmp_nlt (by omega)
    have u2 : decide (c2 < 0) = false := hc2 ▸ cmp_nlt (by omega)
    have hk1 : ∀ W, Calls Tryd.prog 14 #[x.v, a.v] W fun e w' => e = .returned (.int .i64 c1) ∧ Below W.heap.size W w' := fun W => cmpX wx ha hc1 W
    have hk2 : ∀ W, Calls Tryd.prog 14 #[x.v, b.v] W fun e w' => e = .returned (.int .i64 c2) ∧ Below W.heap.size W w' := fun W => cmpX wx hb hc2 W
    obtain ⟨z, hz⟩ : ∃ z, wdOf (x.val + c.val) = z := ⟨_, rfl⟩
    obtain ⟨v, hv⟩ : ∃ v, wdOf (b.val + c.val) = v := ⟨_, rfl⟩
    have wv : v.Wf := hv ▸ wdOf_wf _
    clear hW hWv
    cases hbc : fits2 (b.val + c.val)
    · have hxc : fits2 (x.val + c.val) = false := fits_f (by have := of_nfits hbc; omega)
      go_enter Tryd.func9, Tryd.ntmps9
      go_wp2_with (first
        | (go_at_call 11; with_reducible refine (addX ha hb hab hx _).mono ?_; rintro e w1 ⟨rfl, hb1⟩; obtain ⟨hcc1, hff1⟩ := bcell hb1; have hs1 := hb1.size; (try simp at hs1); (have m1_0 : w.heap.size < w1.heap.size := (by omega)); (have m1_1 : w.heap.size + 1 < w1.heap.size := (by omega)); (have m1_2 : w.heap.size + 1 + 1 < w1.heap.size := (by omega)); have B1 : Below w.heap.size w w1 := below_step (B0) hb1)
        | (go_at_call 11; with_reducible refine (addX hb ha hba hy _).mono ?_; rintro e w2 ⟨rfl, hb2⟩; obtain ⟨hcc2, hff2⟩ := bcell hb2; have hs2 := hb2.size; (try simp at hs2); (have m2_0 : w.heap.size < w2.heap.size := (by omega)); (have m2_1 : w.heap.size + 1 < w2.heap.size := (by omega)); (have m2_2 : w.heap.size + 1 + 1 < w2.heap.size := (by omega)); (have m2_3 : w1.heap.size < w2.heap.size := (by omega)); have B2 : Below w.heap.size w w2 := below_step (below_alloc B1 _) hb2)
        | (go_at_call 13; refine (fixedL _ (ht.step (below_alloc B2 _))).mono ?_; rintro e w3 ⟨rfl, hb3⟩; obtain ⟨hcc3, hff3⟩ := bcell hb3; have hs3 := hb3.size; (try simp at hs3); (have m3_0 : w.heap.size < w3.heap.size := (by omega)); (have m3_1 : w.heap.size + 1 < w3.heap.size := (by omega)); (have m3_2 : w.heap.size + 1 + 1 < w3.heap.size := (by omega)); (have m3_3 : w1.heap.size < w3.heap.size := (by omega)); (have m3_4 : w2.heap.size < w3.heap.size := (by omega)); have B3 : Below w.heap.size w w3 := below_step (below_alloc B2 _) hb3)
        | (go_at_call 14; with_reducible refine (hk1 _).mono ?_; rintro e w4 ⟨rfl, hb4⟩; obtain ⟨hcc4, hff4⟩ := bcell hb4; have hs4 := hb4.size; (try simp at hs4); (have m4_0 : w.heap.size < w4.heap.size := (by omega)); (have m4_1 : w.heap.size + 1 < w4.heap.size := (by omega)); (have m4_2 : w.heap.size + 1 + 1 < w4.heap.size := (by omega)); (have m4_3 : w1.heap.size < w4.heap.size := (by omega)); (have m4_4 : w2.heap.size < w4.heap.size := (by omega)); have B4 : Below w.heap.size w w4 := below_step (B3) hb4)
        | (go_at_call 14; with_reducible refine (hk2 _).mono ?_; rintro e w5 ⟨rfl, hb5⟩; obtain ⟨hcc5, hff5⟩ := bcell hb5; have hs5 := hb5.size; (try simp at hs5); (have m5_0 : w.heap.size < w5.heap.size := (by omega)); (have m5_1 : w.heap.size + 1 < w5.heap.size := (by omega)); (have m5_2 : w.heap.size + 1 + 1 < w5.heap.size := (by omega)); (have m5_3 : w1.heap.size < w5.heap.size := (by omega)); (have m5_4 : w2.heap.size < w5.heap.size := (by omega)); have B5 : Below w.heap.size w w5 := below_step (B4) hb5)
        | (go_at_call 11; with_reducible refine (addX wx hc hxc hz _).mono ?_; rintro e w6 ⟨rfl, hb6⟩; obtain ⟨hcc6, hff6⟩ := bcell hb6; have hs6 := hb6.size; (try simp at hs6); (have m6_0 : w.heap.size < w6.heap.size := (by omega)); (have m6_1 : w.heap.size + 1 < w6.heap.size := (by omega)); (have m6_2 : w.heap.size + 1 + 1 < w6.heap.size := (by omega)); (have m6_3 : w1.heap.size < w6.heap.size := (by omega)); (have m6_4 : w2.heap.size < w6.heap.size := (by omega)); have B6 : Below w.heap.size w w6 := below_step (B5) hb6)
        | (go_at_call 11; with_reducible refine (addX hb hc hbc hv _).mono ?_; rintro e w7 ⟨rfl, hb7⟩; obtain ⟨hcc7, hff7⟩ := bcell hb7; have hs7 := hb7.size; (try simp at hs7); (have m7_0 : w.heap.size < w7.heap.size := (by omega)); (have m7_1 : w.heap.size + 1 < w7.heap.size := (by omega)); (have m7_2 : w.heap.size + 1 + 1 < w7.heap.size := (by omega)); (have m7_3 : w1.heap.size < w7.heap.size := (by omega)); (have m7_4 : w2.heap.size < w7.heap.size := (by omega)); (have m7_5 : w6.heap.size < w7.heap.size := (by omega)); have B7 : Below w.heap.size w w7 := below_step (below_alloc B6 _) hb7))
      all_goals
        go_ret
        refine ⟨by simp, ?_⟩
        repeat (first | assumption | with_reducible apply below_alloc)
    · have hvv : v.val = b.val + c.val := hv ▸ wdOf_val hbc
      obtain ⟨r, hxc⟩ : ∃ r, fits2 (x.val + c.val) = r := ⟨_, rfl⟩
      have e : a.val + v.val = x.val + c.val := by omega
      have hav : fits2 (a.val + v.val) = r := by rw [e]; exact hxc
      have hz2 : wdOf (a.val + v.val) = z := by rw [e]; exact hz
      clear e
      go_enter Tryd.func9, Tryd.ntmps9
      go_wp2_with (first
        | (go_at_call 11; with_reducible refine (addX ha hb hab hx _).mono ?_; rintro e w1 ⟨rfl, hb1⟩; obtain ⟨hcc1, hff1⟩ := bcell hb1; have hs1 := hb1.size; (try simp at hs1); (have m1_0 : w.heap.size < w1.heap.size := (by omega)); (have m1_1 : w.heap.size + 1 < w1.heap.size := (by omega)); (have m1_2 : w.heap.size + 1 + 1 < w1.heap.size := (by omega)); have B1 : Below w.heap.size w w1 := below_step (B0) hb1)
        | (go_at_call 11; with_reducible refine (addX hb ha hba hy _).mono ?_; rintro e w2 ⟨rfl, hb2⟩; obtain ⟨hcc2, hff2⟩ := bcell hb2; have hs2 := hb2.size; (try simp at hs2); (have m2_0 : w.heap.size < w2.heap.size := (by omega)); (have m2_1 : w.heap.size + 1 < w2.heap.size := (by omega)); (have m2_2 : w.heap.size + 1 + 1 < w2.heap.size := (by omega)); (have m2_3 : w1.heap.size < w2.heap.size := (by omega)); have B2 : Below w.heap.size w w2 := below_step (below_alloc B1 _) hb2)
        | (go_at_call 13; refine (fixedL _ (ht.step (below_alloc B2 _))).mono ?_; rintro e w3 ⟨rfl, hb3⟩; obtain ⟨hcc3, hff3⟩ := bcell hb3; have hs3 := hb3.size; (try simp at hs3); (have m3_0 : w.heap.size < w3.heap.size := (by omega)); (have m3_1 : w.heap.size + 1 < w3.heap.size := (by omega)); (have m3_2 : w.heap.size + 1 + 1 < w3.heap.size := (by omega)); (have m3_3 : w1.heap.size < w3.heap.size := (by omega)); (have m3_4 : w2.heap.size < w3.heap.size := (by omega)); have B3 : Below w.heap.size w w3 := below_step (below_alloc B2 _) hb3)
        | (go_at_call 14; with_reducible refine (hk1 _).mono ?_; rintro e w4 ⟨rfl, hb4⟩; obtain ⟨hcc4, hff4⟩ := bcell hb4; have hs4 := hb4.size; (try simp at hs4); (have m4_0 : w.heap.size < w4.heap.size := (by omega)); (have m4_1 : w.heap.size + 1 < w4.heap.size := (by omega)); (have m4_2 : w.heap.size + 1 + 1 < w4.heap.size := (by omega)); (have m4_3 : w1.heap.size < w4.heap.size := (by omega)); (have m4_4 : w2.heap.size < w4.heap.size := (by omega)); have B4 : Below w.heap.size w w4 := below_step (B3) hb4)
        | (go_at_call 14; with_reducible refine (hk2 _).mono ?_; rintro e w5 ⟨rfl, hb5⟩; obtain ⟨hcc5, hff5⟩ := bcell hb5; have hs5 := hb5.size; (try simp at hs5); (have m5_0 : w.heap.size < w5.heap.size := (by omega)); (have m5_1 : w.heap.size + 1 < w5.heap.size := (by omega)); (have m5_2 : w.heap.size + 1 + 1 < w5.heap.size := (by omega)); (have m5_3 : w1.heap.size < w5.heap.size := (by omega)); (have m5_4 : w2.heap.size < w5.heap.size := (by omega)); have B5 : Below w.heap.size w w5 := below_step (B4) hb5)
        | (go_at_call 11; with_reducible refine (addX wx hc hxc hz _).mono ?_; rintro e w6 ⟨rfl, hb6⟩; obtain ⟨hcc6, hff6⟩ := bcell hb6; have hs6 := hb6.size; (try simp at hs6); (have m6_0 : w.heap.size < w6.heap.size := (by omega)); (have m6_1 : w.heap.size + 1 < w6.heap.size := (by omega)); (have m6_2 : w.heap.size + 1 + 1 < w6.heap.size := (by omega)); (have m6_3 : w1.heap.size < w6.heap.size := (by omega)); (have m6_4 : w2.heap.size < w6.heap.size := (by omega)); have B6 : Below w.heap.size w w6 := below_step (B5) hb6)
        | (go_at_call 11; with_reducible refine (addX hb hc hbc hv _).mono ?_; rintro e w7 ⟨rfl, hb7⟩; obtain ⟨hcc7, hff7⟩ := bcell hb7; have hs7 := hb7.size; (try simp at hs7); (have m7_0 : w.heap.size < w7.heap.size := (by omega)); (have m7_1 : w.heap.size + 1 < w7.heap.size := (by omega)); (have m7_2 : w.heap.size + 1 + 1 < w7.heap.size := (by omega)); (have m7_3 : w1.heap.size < w7.heap.size := (by omega)); (have m7_4 : w2.heap.size < w7.heap.size := (by omega)); (have m7_5 : w6.heap.size < w7.heap.size := (by omega)); have B7 : Below w.heap.size w w7 := below_step (below_alloc B6 _) hb7)
        | (go_at_call 11; with_reducible refine (addX ha wv hav hz2 _).mono ?_; rintro e w8 ⟨rfl, hb8⟩; obtain ⟨hcc8, hff8⟩ := bcell hb8; have hs8 := hb8.size; (try simp at hs8); (have m8_0 : w.heap.size < w8.heap.size := (by omega)); (have m8_1 : w.heap.size + 1 < w8.heap.size := (by omega)); (have m8_2 : w.heap.size + 1 + 1 < w8.heap.size := (by omega)); (have m8_3 : w1.heap.size < w8.heap.size := (by omega)); (have m8_4 : w2.heap.size < w8.heap.size := (by omega)); (have m8_5 : w6.heap.size < w8.heap.size := (by omega)); (have m8_6 : w7.heap.size < w8.heap.size := (by omega)); have B8 : Below w.heap.size w w8 := below_step (below_alloc B7 _) hb8))
      all_goals
        go_ret
        refine ⟨by simp, ?_⟩
        repeat (first | assumption | with_reducible apply below_alloc)
end Go.Proofs.YtofibaomjidieaaDoor
set_option linter.unusedVariables false
namespace Go.Proofs.YtofibaomjidieaaDoor.wideSums
open Go.ChangeShapes Go.WideShapes Go.ChangeAt Go.RowKit
set_option maxRecDepth 100000 in
theorem lifted (os : Os) (started : os.Started) (H : Type) (enc : TypeId × Value → H) :
    ReturnsInHanded {} Tryd.checked os 9 .any (fun w args => (Rows.wideSumsSpec.pre enc Tryd.prog Tryd.f9 [] false w args ∧ laidMetH Tryd.prog laidRows w) ∧ sizedMet enc Tryd.prog Tryd.f9 (OpenSpec.ofChange Rows.wideSumsSpec) false w args) (Rows.wideSumsSpec.post enc Tryd.prog Tryd.f9 false true false false) := by
  refine returnsInHanded_of_change_and (C := Tryd.checked) (X := fun w _ => laidMetH Tryd.prog laidRows w) (fun _ _ _ hh h => h.of_heap hh) own started (by kernel_rfl) Tryd.func9
    (ChangeSpec.witness_shaped (enc := enc) (C := Tryd.checked) (os := os) (X := fun w _ => laidMetH Tryd.prog laidRows w) false (World.doorLaid Tryd.prog 400 os) #[.agg #[.int .u64 0, .int .u64 0], .agg #[.int .u64 0, .int .u64 0], .agg #[.int .u64 0, .int .u64 0]] 8 rfl (door_shaped os _) (by kernel_rfl) (by kernel_rfl) (by kernel_rfl) (door_met os _)) ?_
  intro W base args ds gs before hval0 hW hcnd hsz0 hL hholds
  have hsz : (DataW.weightsEach Tryd.prog (Tryd.f9.params.toList ++ Rows.wideSumsSpec.plain.varTypes Tryd.prog) (ds ++ gs)).all (· ≤ reachBytes) = true := hsz0
  have ht : Pow10 W := tab_of_laid hL
  have hval : ∀ (j : Nat) t v, Tryd.f9.params[j]? = some t → args[j]? = some v → Value.okWide Tryd.prog W .any base t v := hval0
  have hW' := hW
  obtain ⟨p, q, hA0, hV, rfl, hfz, hnd⟩ := hW
  have hA : DataW.TrodAll enc Tryd.prog W 0 (fun _ => true) true Tryd.f9.params.toList args.toList ds p := hA0
  rw [Tryd.params9] at hA hval hsz
  obtain ⟨v0, vs0, d0, ds0, p0, q0, hargs, rfl, rfl, h0, r0⟩ := trodAll_cons hA
  obtain ⟨v1, vs1, d1, ds1, p1, q1, rfl, rfl, rfl, h1, r1⟩ := trodAll_cons r0
  obtain ⟨v2, vs2, d2, ds2, p2, q2, rfl, rfl, rfl, h2, r2⟩ := trodAll_cons r1
  obtain ⟨rfl, rfl, rfl⟩ := trodAll_nil r2
  obtain rfl : args = #[v0, v1, v2] := by cases args; simp_all
  obtain ⟨rfl, rfl⟩ := trodVars_none hV
  obtain ⟨s0, rfl, wf0⟩ := open_wide (hval 0 24 v0 rfl rfl) h0
  obtain ⟨s1, rfl, wf1⟩ := open_wide (hval 1 24 v1 rfl rfl) h1
  obtain ⟨s2, rfl, wf2⟩ := open_wide (hval 2 24 v2 rfl rfl) h2
  clear hA0 hval0
  refine (sumsL s0 s1 s2 wf0 wf1 wf2 W ht).mono fun e W' ⟨he, hb⟩ => ?_
  subst he
  exact ⟨_, rfl, law_post laidOut (by kernel_rfl) (by kernel_rfl) rfl Tryd.underlying4 hW' rfl rfl rfl hb⟩

theorem said : Rows.WideSumsSaid :=
  OpenClaim.holds_of_wide 9 Tryd.f9 rfl rfl rfl rfl rfl rfl rfl ⟨rfl, rfl, rfl, rfl, rfl⟩ rfl rfl rfl rfl rfl (by kernel_rfl) Tryd.func9 (by kernel_rfl)
    (of_decide_eq_true (by kernel_rfl)) (by unfold Func.isWrapper; first | (rw [if_pos (by decide +kernel)]; kernel_rfl) | (rw [if_neg (by decide +kernel)]; exact ⟨rfl, rfl⟩))
    (fun os started H enc _ => lifted os started H enc)

theorem holds : Rows.WideSumsCardSaid :=
  Claim7.holds_tied_plain_at .later [] [.data, .data, .data] true _ false
    said (fun _ h => by cases h) (by kernel_rfl) (fun _ h => by cases h) wideSums_row_tie rfl ⟨rfl, rfl⟩ (by kernel_rfl) rfl
    (fun f fn hf hfn => by
      obtain rfl : f = 9 := Option.some.inj ((show Tryd.prog.funcNamed "soffit/soffitlaw07.WideSums" = some 9 by kernel_rfl).symm.trans hf) |>.symm
      obtain rfl : fn = Tryd.f9 := (Option.some.inj (Tryd.func9.symm.trans hfn)).symm
      exact ⟨by kernel_rfl, fun j t ht => by
        rw [Tryd.params9] at ht
        have hm : t ∈ [24, 24, 24] := by simpa using Array.mem_of_getElem? ht
        have hall : ([24, 24, 24].all fun u => !Tryd.prog.wantsStandIn u) = true := by kernel_rfl
        exact (show Tryd.prog.wantsStandIn t = false by simpa using List.all_eq_true.1 hall t hm)⟩)
    (by kernel_rfl)
end Go.Proofs.YtofibaomjidieaaDoor.wideSums
