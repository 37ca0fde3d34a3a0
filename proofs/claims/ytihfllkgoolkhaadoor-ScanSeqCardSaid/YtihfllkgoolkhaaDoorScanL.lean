/-
  Layer 1 (scan): gap of the laws: blanks and remarks alone; what is passed over is such a gap.
-/
import Derived.Test.YtihfllkgoolkhaaDoorScanE
namespace Go.Proofs.YtihfllkgoolkhaaDoor
open Go.RowKit
set_option linter.unusedSimpArgs false
set_option linter.unusedVariables false
def gapL : Bool → List UInt8 → Bool
  | _, [] => true
  | r, c :: l => if c == 10 then gapL false l else if c == 35 then gapL true l else if !r && !(c == 32) && !(c == 9) && !(c == 13) then false else gapL r l
theorem gapL_nl {L : List UInt8} {k : Nat} {r : Bool} (h : k < L.length) (hc : (L.getD k 0 == 10) = true) : gapL r (L.drop k) = gapL false (L.drop (k + 1)) := by
  rw [drop_get h, gapL, if_pos hc]
theorem gapL_rem {L : List UInt8} {k : Nat} {r : Bool} (h : k < L.length) (h0 : (L.getD k 0 == 10) = false) (hc : (L.getD k 0 == 35) = true) : gapL r (L.drop k) = gapL true (L.drop (k + 1)) := by
  rw [drop_get h, gapL, if_neg (by rw [h0]; decide), if_pos hc]
theorem gapL_in {L : List UInt8} {k : Nat} (h : k < L.length) (h0 : (L.getD k 0 == 10) = false) (h1 : (L.getD k 0 == 35) = false) : gapL true (L.drop k) = gapL true (L.drop (k + 1)) := by
  rw [drop_get h, gapL, if_neg (by rw [h0]; decide), if_neg (by rw [h1]; decide)]; rfl
theorem gapL_blank {L : List UInt8} {k : Nat} (h : k < L.length) (h0 : (L.getD k 0 == 10) = false) (h1 : (L.getD k 0 == 35) = false) (hb : (L.getD k 0 == 32) = true ∨ (L.getD k 0 == 9) = true ∨ (L.getD k 0 == 13) = true) : gapL false (L.drop k) = gapL false (L.drop (k + 1)) := by
  rw [drop_get h, gapL, if_neg (by rw [h0]; decide), if_neg (by rw [h1]; decide), if_neg]
  rcases hb with hb | hb | hb <;> rw [hb] <;> simp
theorem gapL_no {L : List UInt8} {k : Nat} (h : k < L.length) (h0 : (L.getD k 0 == 10) = false) (h1 : (L.getD k 0 == 35) = false) (h2 : (L.getD k 0 == 32) = false) (h3 : (L.getD k 0 == 9) = false) (h4 : (L.getD k 0 == 13) = false) : gapL false (L.drop k) = false := by
  rw [drop_get h, gapL, if_neg (by rw [h0]; decide), if_neg (by rw [h1]; decide), if_pos (by rw [h2, h3, h4]; rfl)]
/-- What is passed over is a gap. -/
theorem gap_skip : ∀ (l : List UInt8) (r : Bool), gapL r (l.take (skipL r l)) = true
  | [], r => by cases r <;> rfl
  | c :: l, false => by
    have h1 := gap_skip l false
    have h2 := gap_skip l true
    rw [skipL]
    by_cases hb : blankB c = true
    · rw [if_pos hb, show 1 + skipL false l = skipL false l + 1 by omega, List.take_succ_cons, gapL]
      simp only [blankB, Bool.or_eq_true] at hb
      by_cases h10 : (c == 10) = true
      · rw [if_pos h10]; exact h1
      · by_cases h35 : (c == 35) = true
        · simp only [beq_iff_eq] at h35 hb; subst h35; simp at hb
        · rw [if_neg h10, if_neg h35, if_neg (by rcases hb with ((hb | hb) | hb) | hb <;> first | (rw [hb]; simp) | exact absurd hb h10)]
          exact h1
    · rw [if_neg hb]
      by_cases h35 : (c == 35) = true
      · have h10 : ¬ (c == 10) = true := by simp only [beq_iff_eq] at h35 ⊢; subst h35; decide
        rw [if_pos h35, show 1 + skipL true l = skipL true l + 1 by omega, List.take_succ_cons, gapL, if_neg h10, if_pos h35]
        exact h2
      · rw [if_neg h35]; rfl
  | c :: l, true => by
    have h1 := gap_skip l false
    have h2 := gap_skip l true
    rw [skipL]
    by_cases h10 : (c == 10) = true
    · rw [if_pos h10, show 1 + skipL false l = skipL false l + 1 by omega, List.take_succ_cons, gapL, if_pos h10]
      exact h1
    · rw [if_neg h10, show 1 + skipL true l = skipL true l + 1 by omega, List.take_succ_cons, gapL, if_neg h10]
      by_cases h35 : (c == 35) = true
      · rw [if_pos h35]; exact h2
      · rw [if_neg h35]; exact h2
set_option maxHeartbeats 2000000 in
theorem gapP (s : ByteArray) (hs : s.size ≤ maxLen) (w : World) : Calls Tryd.prog 14 #[.string s] w fun e w' => e = .returned (.bool (gapL false (bytesOf s))) ∧ w = w' := by
  unfold maxLen at hs
  go_enter Tryd.func14, Tryd.ntmps14
  go_wp2
  go_loop [3, 4] (fun b i => ∃ (k : Nat) (r : Bool), k ≤ s.size ∧ i = .int .i64 k ∧ b = .bool r ∧ gapL r ((bytesOf s).drop k) = gapL false (bytesOf s)) (fun _ i => s.size - (intOf i).toNat)
  case atStart => exact ⟨0, false, Nat.zero_le _, rfl, rfl, rfl⟩
  case round =>
    obtain ⟨k, r, hk, rfl, rfl, hr⟩ := hrel
    have HR := Lib.hid hr
    clear hr
    by_cases hlt : k < s.size
    · have hg := byte_get hlt
      have HG := Lib.hid hg
      clear hg
      cases h10 : (s[k] == 10)
      rotate_left
      · have HE := Lib.hid (gapL_nl (r := r) (L := bytesOf s) hlt (by rw [HG.out]; exact h10))
        have n10 : (((s[k]).toNat : Int) == 10) = true := by rw [show s[k] = 10 by simpa using h10]; rfl
        clear h10
        go_wp2
        go_round
        case rel => exact ⟨k + 1, false, by omega, by go_num, rfl, by rw [← HE.out]; exact HR.out⟩
        case measure => simp [intOf] <;> omega
      cases h35 : (s[k] == 35)
      rotate_left
      · have HE := Lib.hid (gapL_rem (r := r) (L := bytesOf s) hlt (by rw [HG.out]; exact h10) (by rw [HG.out]; exact h35))
        have n10 : (((s[k]).toNat : Int) == 10) = false := byte_ne (c := s[k]) (n := 10) (by decide) h10
        have n35 : (((s[k]).toNat : Int) == 35) = true := by rw [show s[k] = 35 by simpa using h35]; rfl
        clear h10 h35
        go_wp2
        go_round
        case rel => exact ⟨k + 1, true, by omega, by go_num, rfl, by rw [← HE.out]; exact HR.out⟩
        case measure => simp [intOf] <;> omega
      cases r
      rotate_left
      · have HE := Lib.hid (gapL_in (L := bytesOf s) hlt (by rw [HG.out]; exact h10) (by rw [HG.out]; exact h35))
        have n10 : (((s[k]).toNat : Int) == 10) = false := byte_ne (c := s[k]) (n := 10) (by decide) h10
        have n35 : (((s[k]).toNat : Int) == 35) = false := byte_ne (c := s[k]) (n := 35) (by decide) h35
        clear h10 h35
        go_wp2
        go_round
        case rel => exact ⟨k + 1, true, by omega, by go_num, rfl, by rw [← HE.out]; exact HR.out⟩
        case measure => simp [intOf] <;> omega
      cases h32 : (s[k] == 32)
      rotate_left
      · have HE := Lib.hid (gapL_blank (L := bytesOf s) hlt (by rw [HG.out]; exact h10) (by rw [HG.out]; exact h35) (by rw [HG.out]; simp [h32]))
        have n10 : (((s[k]).toNat : Int) == 10) = false := byte_ne (c := s[k]) (n := 10) (by decide) h10
        have n35 : (((s[k]).toNat : Int) == 35) = false := byte_ne (c := s[k]) (n := 35) (by decide) h35
        have m32 : (((s[k]).toNat : Int) != 32) = false := by rw [show s[k] = 32 by simpa using h32]; rfl
        clear h10 h35 h32
        go_wp2
        go_round
        case rel => exact ⟨k + 1, false, by omega, by go_num, rfl, by rw [← HE.out]; exact HR.out⟩
        case measure => simp [intOf] <;> omega
      cases h9 : (s[k] == 9)
      rotate_left
      · have HE := Lib.hid (gapL_blank (L := bytesOf s) hlt (by rw [HG.out]; exact h10) (by rw [HG.out]; exact h35) (by rw [HG.out]; simp [h9]))
        have n10 : (((s[k]).toNat : Int) == 10) = false := byte_ne (c := s[k]) (n := 10) (by decide) h10
        have n35 : (((s[k]).toNat : Int) == 35) = false := byte_ne (c := s[k]) (n := 35) (by decide) h35
        have m32 : (((s[k]).toNat : Int) != 32) = true := by rw [bne, show (((s[k]).toNat : Int) == 32) = false from byte_ne (c := s[k]) (n := 32) (by decide) h32]; rfl
        have m9 : (((s[k]).toNat : Int) != 9) = false := by rw [show s[k] = 9 by simpa using h9]; rfl
        clear h10 h35 h32 h9
        go_wp2
        go_round
        case rel => exact ⟨k + 1, false, by omega, by go_num, rfl, by rw [← HE.out]; exact HR.out⟩
        case measure => simp [intOf] <;> omega
      cases h13 : (s[k] == 13)
      rotate_left
      · have HE := Lib.hid (gapL_blank (L := bytesOf s) hlt (by rw [HG.out]; exact h10) (by rw [HG.out]; exact h35) (by rw [HG.out]; simp [h13]))
        have n10 : (((s[k]).toNat : Int) == 10) = false := byte_ne (c := s[k]) (n := 10) (by decide) h10
        have n35 : (((s[k]).toNat : Int) == 35) = false := byte_ne (c := s[k]) (n := 35) (by decide) h35
        have m32 : (((s[k]).toNat : Int) != 32) = true := by rw [bne, show (((s[k]).toNat : Int) == 32) = false from byte_ne (c := s[k]) (n := 32) (by decide) h32]; rfl
        have m9 : (((s[k]).toNat : Int) != 9) = true := by rw [bne, show (((s[k]).toNat : Int) == 9) = false from byte_ne (c := s[k]) (n := 9) (by decide) h9]; rfl
        have m13 : (((s[k]).toNat : Int) != 13) = false := by rw [show s[k] = 13 by simpa using h13]; rfl
        clear h10 h35 h32 h9 h13
        go_wp2
        go_round
        case rel => exact ⟨k + 1, false, by omega, by go_num, rfl, by rw [← HE.out]; exact HR.out⟩
        case measure => simp [intOf] <;> omega
      · have HE := Lib.hid (gapL_no (L := bytesOf s) hlt (by rw [HG.out]; exact h10) (by rw [HG.out]; exact h35) (by rw [HG.out]; exact h32) (by rw [HG.out]; exact h9) (by rw [HG.out]; exact h13))
        have n10 : (((s[k]).toNat : Int) == 10) = false := byte_ne (c := s[k]) (n := 10) (by decide) h10
        have n35 : (((s[k]).toNat : Int) == 35) = false := byte_ne (c := s[k]) (n := 35) (by decide) h35
        have m32 : (((s[k]).toNat : Int) != 32) = true := by rw [bne, show (((s[k]).toNat : Int) == 32) = false from byte_ne (c := s[k]) (n := 32) (by decide) h32]; rfl
        have m9 : (((s[k]).toNat : Int) != 9) = true := by rw [bne, show (((s[k]).toNat : Int) == 9) = false from byte_ne (c := s[k]) (n := 9) (by decide) h9]; rfl
        have m13 : (((s[k]).toNat : Int) != 13) = true := by rw [bne, show (((s[k]).toNat : Int) == 13) = false from byte_ne (c := s[k]) (n := 13) (by decide) h13]; rfl
        clear h10 h35 h32 h9 h13
        go_wp2
        go_ret
        exact ⟨ret_b (HE.out.symm.trans HR.out), rfl⟩
    · obtain rfl : k = s.size := by omega
      have HE := Lib.hid (show gapL r ((bytesOf s).drop s.size) = true by rw [List.drop_eq_nil_of_le (Nat.le_of_eq (bytes_len s))]; rfl)
      go_wp2
      go_ret
      exact ⟨ret_b (HE.out.symm.trans HR.out), rfl⟩
end Go.Proofs.YtihfllkgoolkhaaDoor
