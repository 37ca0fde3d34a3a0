/-
  Layer 1 (scan): the walk of skip of package scan.
-/
import Derived.Test.YtihfllkgoolkhaaDoorScanB
import Derived.WalkMore
namespace Go.Proofs.YtihfllkgoolkhaaDoor
open Go.RowKit
set_option linter.unusedSimpArgs false
set_option linter.unusedVariables false
theorem byte_ne {c : UInt8} {n : Nat} (hn : n < 256) (h : (c == UInt8.ofNat n) = false) : ((c.toNat : Int) == (n : Int)) = false := by
  simp only [beq_eq_false_iff_ne, ne_eq] at h ⊢
  intro e
  apply h
  apply UInt8.toNat_inj.1
  rw [UInt8.toNat_ofNat', Nat.mod_eq_of_lt hn]; omega
set_option maxHeartbeats 1000000 in
theorem skipP (s : ByteArray) (a : Nat) (ha : a ≤ s.size) (hs : s.size ≤ maxLen) (w : World) : Calls Tryd.prog 32 #[.string s, .int .i64 (a : Int)] w fun e w' => e = .returned (.int .i64 (skipD (bytesOf s) a : Nat)) ∧ w = w' := by
  have hs2 := hs
  unfold maxLen at hs
  go_enter Tryd.func32, Tryd.ntmps32
  go_wp2
  go_step3
  go_wp2
  go_step3
  go_wp2
  go_loop [1] (fun i => ∃ k : Nat, k ≤ s.size ∧ i = .int .i64 k ∧ skipD (bytesOf s) k = skipD (bytesOf s) a) (fun i => s.size - (intOf i).toNat)
  case atStart => exact ⟨a, ha, rfl, rfl⟩
  case round =>
    obtain ⟨k, hk, rfl, hr⟩ := hrel
    have HR := Lib.hid hr
    clear hr
    by_cases hlt : k < s.size
    · have hg := byte_get hlt
      have HG := Lib.hid hg
      clear hg
      cases h32 : (s[k] == 32)
      rotate_left
      · have HE := Lib.hid (skipD_blank (L := bytesOf s) hlt (by rw [HG.out, blankB, h32]; simp))
        have n32 : (((s[k]).toNat : Int) == 32) = true := by rw [show s[k] = 32 by simpa using h32]; rfl
        clear h32
        go_wp2
        go_round
        case rel => exact ⟨k + 1, by omega, by go_num, by rw [← HE.out]; exact HR.out⟩
        case measure => simp [intOf] <;> omega
      cases h9 : (s[k] == 9)
      rotate_left
      · have HE := Lib.hid (skipD_blank (L := bytesOf s) hlt (by rw [HG.out, blankB, h9]; simp))
        have n32 := byte_ne (c := s[k]) (n := 32) (by decide) h32
        have n9 : (((s[k]).toNat : Int) == 9) = true := by rw [show s[k] = 9 by simpa using h9]; rfl
        clear h32 h9
        go_wp2
        go_round
        case rel => exact ⟨k + 1, by omega, by go_num, by rw [← HE.out]; exact HR.out⟩
        case measure => simp [intOf] <;> omega
      cases h10 : (s[k] == 10)
      rotate_left
      · have HE := Lib.hid (skipD_blank (L := bytesOf s) hlt (by rw [HG.out, blankB, h10]; simp))
        have n32 := byte_ne (c := s[k]) (n := 32) (by decide) h32
        have n9 := byte_ne (c := s[k]) (n := 9) (by decide) h9
        have n10 : (((s[k]).toNat : Int) == 10) = true := by rw [show s[k] = 10 by simpa using h10]; rfl
        clear h32 h9 h10
        go_wp2
        go_round
        case rel => exact ⟨k + 1, by omega, by go_num, by rw [← HE.out]; exact HR.out⟩
        case measure => simp [intOf] <;> omega
      cases h13 : (s[k] == 13)
      rotate_left
      · have HE := Lib.hid (skipD_blank (L := bytesOf s) hlt (by rw [HG.out, blankB, h13]; simp))
        have n32 := byte_ne (c := s[k]) (n := 32) (by decide) h32
        have n9 := byte_ne (c := s[k]) (n := 9) (by decide) h9
        have n10 := byte_ne (c := s[k]) (n := 10) (by decide) h10
        have n13 : (((s[k]).toNat : Int) == 13) = true := by rw [show s[k] = 13 by simpa using h13]; rfl
        clear h32 h9 h10 h13
        go_wp2
        go_round
        case rel => exact ⟨k + 1, by omega, by go_num, by rw [← HE.out]; exact HR.out⟩
        case measure => simp [intOf] <;> omega
      have hb : blankB ((bytesOf s).getD k 0) = false := by rw [HG.out, blankB, h32, h9, h10, h13]; rfl
      cases h35 : (s[k] == 35)
      · have HE := Lib.hid (skipD_stop (L := bytesOf s) hlt hb (by rw [HG.out]; exact h35))
        have n32 := byte_ne (c := s[k]) (n := 32) (by decide) h32
        have n9 := byte_ne (c := s[k]) (n := 9) (by decide) h9
        have n10 := byte_ne (c := s[k]) (n := 10) (by decide) h10
        have n13 := byte_ne (c := s[k]) (n := 13) (by decide) h13
        have n35 := byte_ne (c := s[k]) (n := 35) (by decide) h35
        clear h32 h9 h10 h13 h35 hb
        go_wp2
        go_ret
        exact ⟨ret_i (HE.out.symm.trans HR.out), rfl⟩
      · have HE := Lib.hid (skipD_rem (L := bytesOf s) hlt hb (by rw [HG.out]; exact h35))
        have HF := Lib.hid (rowD_yes (p := noNl) (L := bytesOf s) hlt (by rw [HG.out, noNl, h10]; rfl))
        have HW := Lib.hid (remD_row (L := bytesOf s) _ (k + 1) rfl hlt)
        have hge := rowD_ge noNl (bytesOf s) (k + 1)
        have hle := rowD_le (p := noNl) (L := bytesOf s) (k := k) hk
        rw [bytes_len] at hle
        rw [← HF.out] at hge
        have n32 := byte_ne (c := s[k]) (n := 32) (by decide) h32
        have n9 := byte_ne (c := s[k]) (n := 9) (by decide) h9
        have n10 := byte_ne (c := s[k]) (n := 10) (by decide) h10
        have n13 := byte_ne (c := s[k]) (n := 13) (by decide) h13
        have n35 : (((s[k]).toNat : Int) == 35) = true := by rw [show s[k] = 35 by simpa using h35]; rfl
        clear h32 h9 h10 h13 h35 hb
        have HFW := Lib.hid (show skipD (bytesOf s) (rowD noNl (bytesOf s) k) = skipD (bytesOf s) a by rw [← HR.out, HE.out, HW.out, HF.out])
        have HRW := row_noNl s k hk hs2
        generalize rowD noNl (bytesOf s) k = m at *
        go_wp2_with (go_at_call 26; refine (HRW _).mono ?_; rintro e w1 ⟨rfl, rfl⟩)
        go_round
        case rel => exact ⟨m, hle, by first | rfl | (congr 1; omega), HFW.out⟩
        case measure => simp [intOf] <;> omega
    · obtain rfl : k = s.size := by omega
      have HE := Lib.hid (skipD_end (L := bytesOf s) (k := s.size) (Nat.le_refl _))
      go_wp2
      go_ret
      exact ⟨ret_i (HE.out.symm.trans HR.out), rfl⟩
end Go.Proofs.YtihfllkgoolkhaaDoor
