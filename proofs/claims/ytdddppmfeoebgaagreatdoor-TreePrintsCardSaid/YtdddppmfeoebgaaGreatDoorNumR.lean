/-
  Layer 2 (tree): the walks of the reference's Number, Rank, Sign.
-/
import Derived.Test.YtdddppmfeoebgaaGreatDoorRank
import Derived.Deep.CutBlock
import Derived.Deep.RegionLaw
import Derived.IntWalk
import Derived.Laws.IdiomStrings
namespace Go.Proofs.YtdddppmfeoebgaaGreatDoor
open Go.RowKit Go.Shelf
set_option linter.unusedSimpArgs false
set_option linter.unusedVariables false
theorem convR (W : World) (d : Nat) (hd : d < 256) : (convert 50 9 (.slice (some ⟨W.heap.size, 0, none⟩) 1 1)).run Tryz.prog (W.alloc (.cells #[.int .u8 (d : Int)] 5)) = .ok (strV [UInt8.ofNat d]) (W.alloc (.cells #[.int .u8 (d : Int)] 5)) := by
  have h := run_convert_bytes_back (P := Tryz.prog) (W.alloc (.cells #[.int .u8 (d : Int)] 5)) 50 9 5 ⟨W.heap.size, 0, none⟩ 1 [UInt8.ofNat d] Tryz.underlying50 Tryz.underlying5 Tryz.underlying9 (fun j hj => by
    obtain rfl : j = 0 := by simpa using hj
    rw [Lib.add_plain, World.cell?_alloc_new]
    simp [Nat.mod_eq_of_lt hd])
  exact h
theorem convC (W : World) (b d : Nat) (hd : d < 256) (hc : W.cell? ⟨b, 0, none⟩ = some (.int .u8 (d : Int))) : (convert 50 9 (.slice (some ⟨b, 0, none⟩) 1 1)).run Tryz.prog W = .ok (strV [UInt8.ofNat d]) W := by
  have h := run_convert_bytes_back (P := Tryz.prog) W 50 9 5 ⟨b, 0, none⟩ 1 [UInt8.ofNat d] Tryz.underlying50 Tryz.underlying5 Tryz.underlying9 (fun j hj => by
    obtain rfl : j = 0 := by simpa using hj
    rw [Lib.add_plain]
    refine hc.trans ?_
    simp [Nat.mod_eq_of_lt hd])
  exact h
theorem str_appR (a b : List UInt8) : (⟨a.toArray⟩ : ByteArray) ++ ⟨b.toArray⟩ = ⟨(a ++ b).toArray⟩ := by
  apply ByteArray.ext; simp [ByteArray.data_append]
theorem num_len (k : Nat) (h : k ≤ 9223372036854775807) : (numD (k : Int)).length ≤ 20 := by
  have := numD_len (n := (k : Int)) ⟨by omega, by omega⟩
  omega
set_option maxRecDepth 100000 in
set_option maxHeartbeats 2000000 in
theorem numRN (k : Nat) : k ≤ 9223372036854775807 → ∀ w : World, Calls Tryz.prog 17 #[.int .i64 (k : Int)] w fun e w' => e = .returned (strV (numD (k : Int))) ∧ Below w.heap.size w w' := by
  induction k using Nat.strongRecOn with
  | _ k ih =>
    intro hk w
    by_cases hz : k < 10
    · obtain ⟨d, hd⟩ : ∃ d, 48 + k = d := ⟨_, rfl⟩
      have hcv := fun W => convR W d (by omega)
      have f0 : (48 : Int) + (k : Int) = (d : Int) := by omega
      have f2 : IntKind.u8.wrap (d : Int) = (d : Int) := by simp only [IntKind.wrap, IntKind.bits, IntKind.signed]; simp; omega
      have HE := Lib.hid (numD_one hz)
      rw [hd] at HE
      have g0 : ((k : Int) == -9223372036854775808) = false := by rw [beq_eq_false_iff_ne]; omega
      have g1 : decide ((k : Int) < 0) = false := by simp
      have g2 : decide ((k : Int) < 10) = true := by simp; omega
      clear hd ih
      go_enter Tryz.func17, Tryz.ntmps17
      go_wp2
      go_ret
      exact ⟨by rw [HE.out]; rfl, below_alloc (Below.refl _ _) _⟩
    · have hq : k / 10 ≤ 9223372036854775807 := by omega
      have hql : k / 10 < k := by omega
      have HC := Lib.hid (ih (k / 10) hql hq)
      have hlen := num_len (k / 10) hq
      obtain ⟨r, hr⟩ : ∃ r, k % 10 = r := ⟨_, rfl⟩
      obtain ⟨q, hqq⟩ : ∃ q, k / 10 = q := ⟨_, rfl⟩
      have HE := Lib.hid (numD_more (n := k) (by omega))
      rw [hr, hqq] at HE
      rw [hqq] at HC hlen
      obtain ⟨d, hd⟩ : ∃ d, 48 + r = d := ⟨_, rfl⟩
      rw [hd] at HE
      have hr10 : r < 10 := by omega
      have hcv := fun W => convR W d (by omega)
      have hcw := fun W b => convC W b d (by omega)
      have f0 : (48 : Int) + (r : Int) = (d : Int) := by omega
      have f2 : IntKind.u8.wrap (d : Int) = (d : Int) := by simp only [IntKind.wrap, IntKind.bits, IntKind.signed]; simp; omega
      have f3 : IntKind.i64.wrap (d : Int) = (d : Int) := IntWalk.i64_in _ (by omega)
      have f4 : Int.tdiv (k : Int) 10 = (q : Int) := by rw [Int.tdiv_eq_ediv_of_nonneg (by omega)]; omega
      have f5 : Int.tmod (k : Int) 10 = (r : Int) := by rw [Int.tmod_eq_emod_of_nonneg (by omega)]; omega
      have f6 : IntKind.i64.wrap (q : Int) = (q : Int) := IntWalk.i64_in _ (by omega)
      have f7 : IntKind.i64.wrap (r : Int) = (r : Int) := IntWalk.i64_in _ (by omega)
      have g0 : ((k : Int) == -9223372036854775808) = false := by rw [beq_eq_false_iff_ne]; omega
      have g1 : decide ((k : Int) < 0) = false := by simp
      have g2 : decide ((k : Int) < 10) = false := by simp; omega
      have l0 : ¬ 9223372036854775807 < (numD (q : Int)).length + 1 := by omega
      clear hd hr hqq hq hql ih hz hr10
      generalize numD (q : Int) = t at HC hlen l0 HE
      go_enter Tryz.func17, Tryz.ntmps17
      go_upto_region 7 with fail
      go_region_with (go_at_call 17; ((with_reducible refine (HC.out _).mono ?_); rintro e w1 ⟨rfl, hb1⟩; (try (have cb : w1.cell? ⟨w.heap.size, 0, none⟩ = some (.int .u8 (d : Int)) := ((Whl.new w 5 #[.int .u8 (d : Int)]).drew.below' hb1).cell 0)); (try (have lw : w.heap.size < w1.heap.size := (((Whl.new w 5 #[.int .u8 (d : Int)]).drew.below' hb1).lt)))))
      all_goals go_wp2
      all_goals go_ret
      all_goals refine ⟨?_, ?_⟩
      all_goals first
        | exact below_alloc (below_step (Below.refl _ _).drew hb1) _
        | exact below_step (below_alloc (Below.refl _ _) _).drew hb1
        | exact (below_alloc (below_step (Below.refl _ _).drew hb1) _).drew
        | exact (below_step (below_alloc (Below.refl _ _) _).drew hb1).drew
        | (show Ending.returned (.string ((⟨t.toArray⟩ : ByteArray) ++ ⟨[UInt8.ofNat d].toArray⟩)) = _
           rw [HE.out, str_appR])
theorem numR (n : Int) (w : World) (h : In64 n) : Calls Tryz.prog 17 #[.int .i64 n] w fun e w' => e = .returned (strV (numD n)) ∧ Below w.heap.size w w' := by
  by_cases h0 : 0 ≤ n
  · obtain ⟨k, rfl⟩ : ∃ k : Nat, n = k := ⟨n.toNat, by omega⟩
    exact numRN k (by have := h.2; omega) w
  · by_cases hm : n = -9223372036854775808
    · subst hm
      have HE := Lib.hid numD_least
      go_enter Tryz.func17, Tryz.ntmps17
      go_wp2
      go_ret
      exact ⟨by rw [HE.out]; rfl, Below.refl _ _⟩
    · obtain ⟨k, rfl⟩ : ∃ k : Nat, n = -(k : Int) := ⟨(-n).toNat, by omega⟩
      have hk1 : 1 ≤ k := by omega
      have hk2 : k ≤ 9223372036854775807 := by have := h.1; omega
      have HC := Lib.hid (numRN k hk2)
      have hlen := num_len k hk2
      have HE := Lib.hid (numD_neg hk1)
      have g0 : (-(k : Int) == -9223372036854775808) = false := by rw [beq_eq_false_iff_ne]; omega
      have g1 : decide (-(k : Int) < 0) = true := by simp; omega
      have f1 : IntKind.i64.wrap (k : Int) = (k : Int) := IntWalk.i64_in _ (by omega)
      have f2 : - -(k : Int) = (k : Int) := by omega
      clear h h0 hm
      generalize numD (k : Int) = t at HC hlen HE
      go_enter Tryz.func17, Tryz.ntmps17
      go_wp2_with (go_at_call 17; go_must (refine (HC.out _).mono ?_; rintro e w1 ⟨rfl, hb1⟩))
      go_ret
      refine ⟨?_, hb1⟩
      show Ending.returned (.string ((⟨#[45]⟩ : ByteArray) ++ ⟨t.toArray⟩)) = _
      rw [HE.out]
      exact congrArg (fun b => Ending.returned (.string b)) (str_appR [45] t)
set_option maxHeartbeats 4000000 in
theorem rankR (k : Int) (w : World) : Calls Tryz.prog 88 #[.int .i64 k] w fun e w' => e = .returned (.int .i64 (rankD k)) ∧ w = w' := by
  rcases (by omega : k = 20 ∨ k = 19 ∨ k = 18 ∨ k = 12 ∨ k = 13 ∨ k = 14 ∨ k = 15 ∨ k = 16 ∨ k = 17 ∨ k = 7 ∨ k = 8 ∨ k = 9 ∨ k = 10 ∨ k = 11 ∨ k = 5 ∨ k = 6 ∨ (k ≠ 20 ∧ k ≠ 19 ∧ k ≠ 18 ∧ k ≠ 12 ∧ k ≠ 13 ∧ k ≠ 14 ∧ k ≠ 15 ∧ k ≠ 16 ∧ k ≠ 17 ∧ k ≠ 7 ∧ k ≠ 8 ∧ k ≠ 9 ∧ k ≠ 10 ∧ k ≠ 11 ∧ k ≠ 5 ∧ k ≠ 6)) with rfl | rfl | rfl | rfl | rfl | rfl | rfl | rfl | rfl | rfl | rfl | rfl | rfl | rfl | rfl | rfl | hk
  case inr.inr.inr.inr.inr.inr.inr.inr.inr.inr.inr.inr.inr.inr.inr.inr =>
    have e0 : rankD k = 9 := by
      obtain ⟨n20, n19, n18, n12, n13, n14, n15, n16, n17, n7, n8, n9, n10, n11, n5, n6⟩ := hk
      simp only [rankD, Bool.or_eq_true, beq_iff_eq]
      repeat (first | rw [if_neg (by omega)])
    obtain ⟨n20, n19, n18, n12, n13, n14, n15, n16, n17, n7, n8, n9, n10, n11, n5, n6⟩ := hk
    rw [e0]
    clear e0
    have b20 : (k == 20) = false := by simpa using n20
    have b19 : (k == 19) = false := by simpa using n19
    have b18 : (k == 18) = false := by simpa using n18
    have b12 : (k == 12) = false := by simpa using n12
    have b13 : (k == 13) = false := by simpa using n13
    have b14 : (k == 14) = false := by simpa using n14
    have b15 : (k == 15) = false := by simpa using n15
    have b16 : (k == 16) = false := by simpa using n16
    have b17 : (k == 17) = false := by simpa using n17
    have b7 : (k == 7) = false := by simpa using n7
    have b8 : (k == 8) = false := by simpa using n8
    have b9 : (k == 9) = false := by simpa using n9
    have b10 : (k == 10) = false := by simpa using n10
    have b11 : (k == 11) = false := by simpa using n11
    have b5 : (k == 5) = false := by simpa using n5
    have b6 : (k == 6) = false := by simpa using n6
    clear n20 n19 n18 n12 n13 n14 n15 n16 n17 n7 n8 n9 n10 n11 n5 n6
    go_enter Tryz.func88, Tryz.ntmps88
    go_wp2
    go_ret
    exact ⟨rfl, rfl⟩
  all_goals
    go_enter Tryz.func88, Tryz.ntmps88
    go_wp2
    go_ret
    exact ⟨rfl, rfl⟩
set_option maxHeartbeats 4000000 in
theorem signR (k : Int) (w : World) (h : 7 ≤ k ∧ k ≤ 19) : Calls Tryz.prog 91 #[.int .i64 k] w fun e w' => e = .returned (strV (signT k)) ∧ Below w.heap.size w w' := by
  rcases (by omega : k = 7 ∨ k = 8 ∨ k = 9 ∨ k = 10 ∨ k = 11 ∨ k = 12 ∨ k = 13 ∨ k = 14 ∨ k = 15 ∨ k = 16 ∨ k = 17 ∨ k = 18 ∨ k = 19) with rfl | rfl | rfl | rfl | rfl | rfl | rfl | rfl | rfl | rfl | rfl | rfl | rfl
  all_goals
    go_enter Tryz.func91, Tryz.ntmps91
    go_wp2
    go_ret
    exact ⟨rfl, below_alloc (Below.refl _ _) _⟩
end Go.Proofs.YtdddppmfeoebgaaGreatDoor
