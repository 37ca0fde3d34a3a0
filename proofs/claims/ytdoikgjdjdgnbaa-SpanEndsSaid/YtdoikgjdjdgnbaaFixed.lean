/-
  Layer 8 (span): the calls whose answers the document fixes: fixed() answers true.
-/
import Derived.Test.YtdoikgjdjdgnbaaWidP
import Derived.Test.YtdoikgjdjdgnbaaHull
namespace Go.Proofs.Ytdoikgjdjdgnbaa
open Go.RowKit
set_option linter.unusedSimpArgs false
set_option linter.unusedVariables false

set_option maxRecDepth 100000 in
set_option maxHeartbeats 400000 in
theorem doFix (w : World) : Calls Try.prog 22 #[.int .i64 3, .agg #[.int .i64 1, .int .i64 2], .agg #[.int .i64 10, .int .i64 20]] w fun e w' => e = .returned (.tuple #[.agg #[.int .i64 11, .int .i64 22], .bool true]) ∧ Below w.heap.size w w' := by
  go_enter Try.func22, Try.ntmps22
  go_wp2_with (first | go_at_call 31; go_in | go_at_call 35; go_in | (
    go_at_call 36
    refine (hullP _ _ _ [11, 22] _ ?_ (by decide) (by decide) ?_).mono ?_
    · simp
    · intro k hk
      obtain rfl | rfl : k = 0 ∨ k = 1 := by simp at hk; omega
      · go_simp; rfl
      · go_simp; rfl
    rintro e w1 ⟨rfl, hb1⟩
    obtain ⟨hcc1, hff1⟩ := bcell hb1
    have hs1 := hb1.size
    simp at hs1))
  all_goals (try simp only [Exit.inBlock, Exit.then])
  all_goals refine ret_of ?_ rfl
  all_goals simp [results, Try.results22, go_sem, *]
  all_goals go_light
  all_goals refine ⟨by decide, (by repeat (first | exact Below.refl _ _ | apply Below.drew | refine Below.alloc ?_ (by first | omega | (simp; omega) | simp) _ | refine Below.setCell ?_ (by dsimp only; omega) _ | refine Below.trans ?_ (hb1.mono (by first | omega | (simp; omega) | simp))))⟩

theorem meetFix (w : World) : Calls Try.prog 11 #[.agg #[.int .i64 1, .int .i64 5], .agg #[.int .i64 4, .int .i64 9]] w fun e w' => e = .returned (.tuple #[.agg #[.int .i64 4, .int .i64 5], .bool true]) ∧ Below w.heap.size w w' := meetP ⟨1, 5⟩ ⟨4, 9⟩ w
theorem belowFix (w : World) : Calls Try.prog 24 #[.agg #[.int .i64 0, .int .i64 9], .agg #[.int .i64 0, .int .i64 5]] w fun e w' => e = .returned (.tuple #[.agg #[.int .i64 0, .int .i64 4], .agg #[.int .i64 1, .int .i64 5], .bool true]) ∧ Below w.heap.size w w' := belowP ⟨0, 9⟩ ⟨0, 5⟩ (⟨⟨by decide, by decide⟩, ⟨by decide, by decide⟩⟩) (⟨⟨by decide, by decide⟩, ⟨by decide, by decide⟩⟩) w
theorem lenFix (w : World) : Calls Try.prog 20 #[.agg #[.int .i64 3, .int .i64 99], .agg #[.int .i64 0, .int .i64 10]] w fun e w' => e = .returned (.int .u64 7) ∧ Below w.heap.size w w' := lengthP ⟨3, 99⟩ ⟨0, 10⟩ (⟨⟨by decide, by decide⟩, ⟨by decide, by decide⟩⟩) (⟨⟨by decide, by decide⟩, ⟨by decide, by decide⟩⟩) w
theorem joinFix (w : World) : Calls Try.prog 18 #[.agg #[.int .i64 1, .int .i64 2], .agg #[.int .i64 9, .int .i64 9]] w fun e w' => e = .returned (.agg #[.int .i64 1, .int .i64 9]) ∧ Below w.heap.size w w' := joinP ⟨1, 2⟩ ⟨9, 9⟩ w
theorem hasFix (w : World) : Calls Try.prog 16 #[.agg #[.int .i64 Sp.all.lo, .int .i64 Sp.all.hi], .int .i64 (-9223372036854775808)] w fun e w' => e = .returned (.bool true) ∧ Below w.heap.size w w' := hasP Sp.all (-9223372036854775808) w
theorem widenFix (b c : Nat) (w : World) (hb : b < w.heap.size) (h0 : w.cell? ⟨b, 0, none⟩ = some (.int .i64 4)) (h1 : w.cell? ⟨b, 1, none⟩ = some (.int .i64 8)) :
    Calls Try.prog 26 #[.agg #[.int .i64 0, .int .i64 3], .agg #[.int .i64 0, .int .i64 5], .slice (some ⟨b, 0, none⟩) 2 c] w fun e w' => e = .returned (.agg #[.int .i64 0, .int .i64 8]) ∧ Below w.heap.size w w' :=
  widenP ⟨0, 3⟩ ⟨0, 5⟩ (some ⟨b, 0, none⟩) c [4, 8] w (by decide) (fun _ => ⟨b, 0, rfl, hb, fun k hk => by
    obtain rfl | rfl : k = 0 ∨ k = 1 := by simp at hk; omega
    · exact h0
    · exact h1⟩)

set_option maxRecDepth 100000 in
set_option maxHeartbeats 800000 in
theorem fixedL (w : World) : Calls Try.prog 13 #[] w fun e w' => e = .returned (.bool true) ∧ Below w.heap.size w w' := by
  go_enter Try.func13, Try.ntmps13
  go_wp2_with (first | (go_at_call 22; refine (doFix _).mono ?_; rintro e w1 ⟨rfl, hb1⟩; obtain ⟨hcc1, hff1⟩ := bcell hb1; have hs1 := hb1.size; (try simp at hs1)) | (go_at_call 11; refine (meetFix _).mono ?_; rintro e w2 ⟨rfl, hb2⟩; obtain ⟨hcc2, hff2⟩ := bcell hb2; have hs2 := hb2.size; (try simp at hs2); have l1_2 : w1.heap.size < w2.heap.size := (by omega)) | (go_at_call 24; refine (belowFix _).mono ?_; rintro e w3 ⟨rfl, hb3⟩; obtain ⟨hcc3, hff3⟩ := bcell hb3; have hs3 := hb3.size; (try simp at hs3); have l1_3 : w1.heap.size < w3.heap.size := (by omega); have l2_3 : w2.heap.size < w3.heap.size := (by omega)) | (go_at_call 26; refine (widenFix _ _ _ ?_ ?_ ?_).mono ?_; (· simp); (· go_simp); (· go_simp); rintro e w4 ⟨rfl, hb4⟩; obtain ⟨hcc4, hff4⟩ := bcell hb4; have hs4 := hb4.size; (try simp at hs4); have l1_4 : w1.heap.size < w4.heap.size := (by omega); have l2_4 : w2.heap.size < w4.heap.size := (by omega); have l3_4 : w3.heap.size < w4.heap.size := (by omega); have m3_4 : w3.heap.size + 1 < w4.heap.size := (by omega)) | (go_at_call 20; refine (lenFix _).mono ?_; rintro e w5 ⟨rfl, hb5⟩; obtain ⟨hcc5, hff5⟩ := bcell hb5; have hs5 := hb5.size; (try simp at hs5); have l1_5 : w1.heap.size < w5.heap.size := (by omega); have l2_5 : w2.heap.size < w5.heap.size := (by omega); have l3_5 : w3.heap.size < w5.heap.size := (by omega); have l4_5 : w4.heap.size < w5.heap.size := (by omega); have m3_5 : w3.heap.size + 1 < w5.heap.size := (by omega)) | (go_at_call 14; refine (allP _).mono ?_; rintro e w6 ⟨rfl, hb6⟩; obtain ⟨hcc6, hff6⟩ := bcell hb6; have hs6 := hb6.size; (try simp at hs6); have l1_6 : w1.heap.size < w6.heap.size := (by omega); have l2_6 : w2.heap.size < w6.heap.size := (by omega); have l3_6 : w3.heap.size < w6.heap.size := (by omega); have l4_6 : w4.heap.size < w6.heap.size := (by omega); have m3_6 : w3.heap.size + 1 < w6.heap.size := (by omega)) | (go_at_call 16; refine (hasFix _).mono ?_; rintro e w7 ⟨rfl, hb7⟩; obtain ⟨hcc7, hff7⟩ := bcell hb7; have hs7 := hb7.size; (try simp at hs7); have l1_7 : w1.heap.size < w7.heap.size := (by omega); have l2_7 : w2.heap.size < w7.heap.size := (by omega); have l3_7 : w3.heap.size < w7.heap.size := (by omega); have l4_7 : w4.heap.size < w7.heap.size := (by omega); have m3_7 : w3.heap.size + 1 < w7.heap.size := (by omega)) | (go_at_call 18; refine (joinFix _).mono ?_; rintro e w8 ⟨rfl, hb8⟩; obtain ⟨hcc8, hff8⟩ := bcell hb8; have hs8 := hb8.size; (try simp at hs8); have l1_8 : w1.heap.size < w8.heap.size := (by omega); have l2_8 : w2.heap.size < w8.heap.size := (by omega); have l3_8 : w3.heap.size < w8.heap.size := (by omega); have l4_8 : w4.heap.size < w8.heap.size := (by omega); have m3_8 : w3.heap.size + 1 < w8.heap.size := (by omega)))
  go_ret
  refine ⟨by simp, (by repeat (first | exact Below.refl _ _ | apply Below.drew | refine Below.alloc ?_ (by first | omega | (simp; omega) | simp) _ | refine Below.setCell ?_ (by dsimp only; omega) _ | refine Below.trans ?_ (hb8.mono (by first | omega | (simp; omega) | simp)) | refine Below.trans ?_ (hb7.mono (by first | omega | (simp; omega) | simp)) | refine Below.trans ?_ (hb6.mono (by first | omega | (simp; omega) | simp)) | refine Below.trans ?_ (hb5.mono (by first | omega | (simp; omega) | simp)) | refine Below.trans ?_ (hb4.mono (by first | omega | (simp; omega) | simp)) | refine Below.trans ?_ (hb3.mono (by first | omega | (simp; omega) | simp)) | refine Below.trans ?_ (hb2.mono (by first | omega | (simp; omega) | simp)) | refine Below.trans ?_ (hb1.mono (by first | omega | (simp; omega) | simp))))⟩
end Go.Proofs.Ytdoikgjdjdgnbaa

