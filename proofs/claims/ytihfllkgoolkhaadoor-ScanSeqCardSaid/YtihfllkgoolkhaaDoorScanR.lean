/-
  Layer 1 (scan): the walks of the reference: Letter, Digit, plain, blank.
-/
import Derived.Test.YtihfllkgoolkhaaDoorScanE
namespace Go.Proofs.YtihfllkgoolkhaaDoor
open Go.RowKit
set_option linter.unusedSimpArgs false
set_option linter.unusedVariables false
theorem letterR (c : UInt8) (w : World) : Calls Tryd.prog 35 #[.int .u8 (c.toNat : Int)] w fun e w' => e = .returned (.bool (letterB c)) ∧ w = w' := by
  have hc := c.toNat_lt
  rcases (by omega : c.toNat < 97 ∨ (97 ≤ c.toNat ∧ c.toNat ≤ 122) ∨ 122 < c.toNat) with h1 | ⟨h1, h2⟩ | h1
  · have e1 : decide ((97 : Int) ≤ (c.toNat : Int)) = false := by simp; omega
    have e0 : letterB c = false := by simp [letterB]; omega
    rw [e0]
    go_enter Tryd.func35, Tryd.ntmps35
    go_wp2
    go_ret
    exact ⟨rfl, rfl⟩
  · have e1 : decide ((97 : Int) ≤ (c.toNat : Int)) = true := by simp; omega
    have e2 : decide ((c.toNat : Int) ≤ 122) = true := by simp; omega
    have e0 : letterB c = true := by simp [letterB]; omega
    rw [e0]
    go_enter Tryd.func35, Tryd.ntmps35
    go_wp2
    go_ret
    exact ⟨rfl, rfl⟩
  · have e1 : decide ((97 : Int) ≤ (c.toNat : Int)) = true := by simp; omega
    have e2 : decide ((c.toNat : Int) ≤ 122) = false := by simp; omega
    have e0 : letterB c = false := by simp [letterB]; omega
    rw [e0]
    go_enter Tryd.func35, Tryd.ntmps35
    go_wp2
    go_ret
    exact ⟨rfl, rfl⟩
theorem digitR (c : UInt8) (w : World) : Calls Tryd.prog 36 #[.int .u8 (c.toNat : Int)] w fun e w' => e = .returned (.bool (digitB c)) ∧ w = w' := by
  have hc := c.toNat_lt
  rcases (by omega : c.toNat < 48 ∨ (48 ≤ c.toNat ∧ c.toNat ≤ 57) ∨ 57 < c.toNat) with h1 | ⟨h1, h2⟩ | h1
  · have e1 : decide ((48 : Int) ≤ (c.toNat : Int)) = false := by simp; omega
    have e0 : digitB c = false := by simp [digitB]; omega
    rw [e0]
    go_enter Tryd.func36, Tryd.ntmps36
    go_wp2
    go_ret
    exact ⟨rfl, rfl⟩
  · have e1 : decide ((48 : Int) ≤ (c.toNat : Int)) = true := by simp; omega
    have e2 : decide ((c.toNat : Int) ≤ 57) = true := by simp; omega
    have e0 : digitB c = true := by simp [digitB]; omega
    rw [e0]
    go_enter Tryd.func36, Tryd.ntmps36
    go_wp2
    go_ret
    exact ⟨rfl, rfl⟩
  · have e1 : decide ((48 : Int) ≤ (c.toNat : Int)) = true := by simp; omega
    have e2 : decide ((c.toNat : Int) ≤ 57) = false := by simp; omega
    have e0 : digitB c = false := by simp [digitB]; omega
    rw [e0]
    go_enter Tryd.func36, Tryd.ntmps36
    go_wp2
    go_ret
    exact ⟨rfl, rfl⟩
/-- Letters and digits from place k on. -/
theorem rowD_run {p : UInt8 → Bool} {L : List UInt8} {k : Nat} (h : k < L.length) : (rowD p L k == L.length) = (p (L.getD k 0) && (rowD p L (k + 1) == L.length)) := by
  cases hp : p (L.getD k 0)
  · rw [rowD_no h hp]; simp; omega
  · rw [rowD_yes h hp]; simp
def plainB (L : List UInt8) : Bool := !(L.length == 0) && letterB (L.getD 0 0) && (rowD alnumB L 0 == L.length)
def plainK (L : List UInt8) : Nat → Bool
  | 0 => plainB L
  | k + 1 => rowD alnumB L (k + 1) == L.length
theorem plainK_yes {L : List UInt8} {k : Nat} (h : k < L.length) (hc : letterB (L.getD k 0) = true ∨ (0 < k ∧ digitB (L.getD k 0) = true)) : plainK L k = plainK L (k + 1) := by
  have ha : alnumB (L.getD k 0) = true := by
    rcases hc with h1 | ⟨_, h1⟩ <;> rw [alnumB, h1] <;> simp
  cases k with
  | zero =>
    rcases hc with h1 | ⟨h1, _⟩
    · rw [plainK, plainK, plainB, rowD_run h, ha, h1, beq_eq_false_iff_ne.2 (show L.length ≠ 0 by omega)]; simp
    · omega
  | succ k => rw [plainK, plainK, rowD_run h, ha]; simp
theorem plainK_no {L : List UInt8} {k : Nat} (h : k < L.length) (h1 : letterB (L.getD k 0) = false) (hc : k = 0 ∨ digitB (L.getD k 0) = false) : plainK L k = false := by
  cases k with
  | zero => rw [plainK, plainB, h1]; simp
  | succ k =>
    rcases hc with hc | hc
    · omega
    · rw [plainK, rowD_run h, alnumB, h1, hc]; simp
set_option maxHeartbeats 2000000 in
theorem plainR (s : ByteArray) (hs : s.size ≤ maxLen) (w : World) : Calls Tryd.prog 28 #[.string s] w fun e w' => e = .returned (.bool (plainB (bytesOf s))) ∧ w = w' := by
  have hs2 := hs
  unfold maxLen at hs
  by_cases h0 : s.size = 0
  · have e0 : plainB (bytesOf s) = false := by simp [plainB, bytes_len, h0]
    rw [e0]
    go_enter Tryd.func28, Tryd.ntmps28
    go_wp2
    go_loop [3] (fun i => i = .int .i64 0) (fun i => 0)
    case atStart => rfl
    case round =>
      subst hrel
      go_wp2
      go_ret
      exact ⟨rfl, rfl⟩
  · have hp0 : decide (0 < (s.size : Int)) = true := by simp; omega
    go_enter Tryd.func28, Tryd.ntmps28
    go_wp2
    go_loop [3] (fun i => ∃ k : Nat, k ≤ s.size ∧ i = .int .i64 k ∧ plainK (bytesOf s) k = plainB (bytesOf s)) (fun i => s.size - (intOf i).toNat)
    case atStart => exact ⟨0, Nat.zero_le _, rfl, rfl⟩
    case round =>
      obtain ⟨k, hk, rfl, hr⟩ := hrel
      have HR := Lib.hid hr
      clear hr
      by_cases hlt : k < s.size
      · have hg := byte_get hlt
        have HG := Lib.hid hg
        clear hg
        cases hl : letterB s[k]
        rotate_left
        · have HE := Lib.hid (plainK_yes (L := bytesOf s) hlt (by rw [HG.out]; exact .inl hl))
          go_wp2_with (first
            | (go_at_call 35; refine (letterR _ _).mono ?_; rintro e w' ⟨rfl, rfl⟩)
            | (go_at_call 36; refine (digitR _ _).mono ?_; rintro e w' ⟨rfl, rfl⟩))
          go_round
          case rel => exact ⟨k + 1, by omega, by go_num, by rw [← HE.out]; exact HR.out⟩
          case measure => simp [intOf] <;> omega
        rcases Nat.eq_zero_or_pos k with hz | hz
        · have hkk : (((k : Nat) : Int) == 0) = true := by simp; omega
          have HE := Lib.hid (plainK_no (L := bytesOf s) hlt (by rw [HG.out]; exact hl) (.inl hz))
          clear hz
          go_wp2_with (first
            | (go_at_call 35; refine (letterR _ _).mono ?_; rintro e w' ⟨rfl, rfl⟩)
            | (go_at_call 36; refine (digitR _ _).mono ?_; rintro e w' ⟨rfl, rfl⟩))
          go_ret
          exact ⟨ret_b (HE.out.symm.trans HR.out), rfl⟩
        · have hkk : (((k : Nat) : Int) == 0) = false := by simp; omega
          cases hd : digitB s[k]
          · have HE := Lib.hid (plainK_no (L := bytesOf s) hlt (by rw [HG.out]; exact hl) (.inr (by rw [HG.out]; exact hd)))
            clear hz
            go_wp2_with (first
              | (go_at_call 35; refine (letterR _ _).mono ?_; rintro e w' ⟨rfl, rfl⟩)
              | (go_at_call 36; refine (digitR _ _).mono ?_; rintro e w' ⟨rfl, rfl⟩))
            go_ret
            exact ⟨ret_b (HE.out.symm.trans HR.out), rfl⟩
          · have HE := Lib.hid (plainK_yes (L := bytesOf s) hlt (by rw [HG.out]; exact .inr ⟨hz, hd⟩))
            clear hz
            go_wp2_with (first
              | (go_at_call 35; refine (letterR _ _).mono ?_; rintro e w' ⟨rfl, rfl⟩)
              | (go_at_call 36; refine (digitR _ _).mono ?_; rintro e w' ⟨rfl, rfl⟩))
            go_round
            case rel => exact ⟨k + 1, by omega, by go_num, by rw [← HE.out]; exact HR.out⟩
            case measure => simp [intOf] <;> omega
      · obtain rfl : k = s.size := by omega
        have HE := Lib.hid (show plainK (bytesOf s) s.size = decide (0 < s.size) from by
          obtain ⟨m, hm⟩ : ∃ m, s.size = m + 1 := ⟨s.size - 1, by omega⟩
          rw [hm, plainK, rowD_end (by rw [bytes_len]; omega), bytes_len, hm]; simp)
        go_wp2
        go_ret
        exact ⟨ret_b (HE.out.symm.trans HR.out), rfl⟩
set_option maxHeartbeats 2000000 in
theorem blankR (s : ByteArray) (a : Nat) (ha : a ≤ s.size) (hs : s.size ≤ maxLen) (w : World) : Calls Tryd.prog 29 #[.string s, .int .i64 (a : Int)] w fun e w' => e = .returned (.int .i64 (skipD (bytesOf s) a : Nat)) ∧ w = w' := by
  have hs2 := hs
  unfold maxLen at hs
  go_enter Tryd.func29, Tryd.ntmps29
  go_wp2
  go_loop [1] (fun i => ∃ k : Nat, k ≤ s.size ∧ i = .int .i64 k ∧ skipD (bytesOf s) k = skipD (bytesOf s) a) (fun i => s.size - (intOf i).toNat)
  case atStart => exact ⟨a, ha, rfl, rfl⟩
  case round =>
    obtain ⟨k, hk, rfl, hr⟩ := hrel
    have HR := Lib.hid hr
    clear hr
    by_cases hlt : k < s.size
    · have hg := byte_get hlt
      have HG := Lib.hid hg
      clear hg
      cases h32 : (s[k] == 32)
      rotate_left
      · have HE := Lib.hid (skipD_blank (L := bytesOf s) hlt (by rw [HG.out, blankB, h32]; simp))
        have n32 : (((s[k]).toNat : Int) == 32) = true := by rw [show s[k] = 32 by simpa using h32]; rfl
        clear h32
        go_wp2
        go_round
        case rel => exact ⟨k + 1, by omega, by go_num, by rw [← HE.out]; exact HR.out⟩
        case measure => simp [intOf] <;> omega
      cases h9 : (s[k] == 9)
      rotate_left
      · have HE := Lib.hid (skipD_blank (L := bytesOf s) hlt (by rw [HG.out, blankB, h9]; simp))
        have n32 := byte_ne (c := s[k]) (n := 32) (by decide) h32
        have n9 : (((s[k]).toNat : Int) == 9) = true := by rw [show s[k] = 9 by simpa using h9]; rfl
        clear h32 h9
        go_wp2
        go_round
        case rel => exact ⟨k + 1, by omega, by go_num, by rw [← HE.out]; exact HR.out⟩
        case measure => simp [intOf] <;> omega
      cases h10 : (s[k] == 10)
      rotate_left
      · have HE := Lib.hid (skipD_blank (L := bytesOf s) hlt (by rw [HG.out, blankB, h10]; simp))
        have n32 := byte_ne (c := s[k]) (n := 32) (by decide) h32
        have n9 := byte_ne (c := s[k]) (n := 9) (by decide) h9
        have n10 : (((s[k]).toNat : Int) == 10) = true := by rw [show s[k] = 10 by simpa using h10]; rfl
        clear h32 h9 h10
        go_wp2
        go_round
        case rel => exact ⟨k + 1, by omega, by go_num, by rw [← HE.out]; exact HR.out⟩
        case measure => simp [intOf] <;> omega
      cases h13 : (s[k] == 13)
      rotate_left
      · have HE := Lib.hid (skipD_blank (L := bytesOf s) hlt (by rw [HG.out, blankB, h13]; simp))
        have n32 := byte_ne (c := s[k]) (n := 32) (by decide) h32
        have n9 := byte_ne (c := s[k]) (n := 9) (by decide) h9
        have n10 := byte_ne (c := s[k]) (n := 10) (by decide) h10
        have n13 : (((s[k]).toNat : Int) == 13) = true := by rw [show s[k] = 13 by simpa using h13]; rfl
        clear h32 h9 h10 h13
        go_wp2
        go_round
        case rel => exact ⟨k + 1, by omega, by go_num, by rw [← HE.out]; exact HR.out⟩
        case measure => simp [intOf] <;> omega
      have hb : blankB ((bytesOf s).getD k 0) = false := by rw [HG.out, blankB, h32, h9, h10, h13]; rfl
      have n32 := byte_ne (c := s[k]) (n := 32) (by decide) h32
      have n9 := byte_ne (c := s[k]) (n := 9) (by decide) h9
      have n10 := byte_ne (c := s[k]) (n := 10) (by decide) h10
      have n13 := byte_ne (c := s[k]) (n := 13) (by decide) h13
      cases h35 : (s[k] == 35)
      · have HE := Lib.hid (skipD_stop (L := bytesOf s) hlt hb (by rw [HG.out]; exact h35))
        have n35 := byte_ne (c := s[k]) (n := 35) (by decide) h35
        clear h32 h9 h10 h13 h35 hb
        go_wp2
        go_ret
        exact ⟨ret_i (HE.out.symm.trans HR.out), rfl⟩
      · have HE := Lib.hid (skipD_rem (L := bytesOf s) hlt hb (by rw [HG.out]; exact h35))
        have HF := Lib.hid (remD_go (L := bytesOf s) hlt (by rw [HG.out]; exact h10))
        have n35 : (((s[k]).toNat : Int) == 35) = true := by rw [show s[k] = 35 by simpa using h35]; rfl
        clear h32 h9 h13 h35 hb
        go_wp2
        go_loop [1] (fun i => ∃ j : Nat, k ≤ j ∧ j ≤ s.size ∧ i = .int .i64 j ∧ (j = k ∨ k < j) ∧ remD (bytesOf s) j = skipD (bytesOf s) a) (fun i => s.size - (intOf i).toNat)
        case atStart => exact ⟨k, Nat.le_refl _, hk, rfl, .inl rfl, by rw [HF.out, ← HE.out]; exact HR.out⟩
        case round =>
          clear HR HE HF
          obtain ⟨j, hkj, hj, rfl, hjk, hr2⟩ := hrel
          have HR := Lib.hid hr2
          clear hr2
          by_cases hlj : j < s.size
          · have hg2 := byte_get hlj
            have HG2 := Lib.hid hg2
            clear hg2
            cases hq : (s[j] == 10)
            · have m10 : (((s[j]).toNat : Int) != 10) = true := by rw [bne, show (((s[j]).toNat : Int) == 10) = false from byte_ne (c := s[j]) (n := 10) (by decide) hq]; rfl
              have HE := Lib.hid (remD_go (L := bytesOf s) hlj (by rw [HG2.out]; exact hq))
              clear hq h10
              go_wp2
              go_round
              case rel => exact ⟨j + 1, by omega, by omega, by go_num, .inr (by omega), by rw [← HE.out]; exact HR.out⟩
              case measure => simp [intOf] <;> omega
            · have m10 : (((s[j]).toNat : Int) != 10) = false := by rw [show s[j] = 10 by simpa using hq]; rfl
              have hne : k < j := by
                rcases hjk with rfl | h
                · rw [hq] at h10; cases h10
                · exact h
              have HE := Lib.hid ((remD_nl (L := bytesOf s) hlj (by rw [HG2.out]; exact hq)).trans (skipD_blank (L := bytesOf s) hlj (by rw [HG2.out, blankB, hq]; simp)).symm)
              clear hq h10 hjk
              go_wp2
              go_round
              case rel => exact ⟨j, hj, rfl, by rw [← HE.out]; exact HR.out⟩
              case measure => simp [intOf] <;> omega
          · obtain rfl : j = s.size := by omega
            have HE := Lib.hid ((remD_end (L := bytesOf s) (k := s.size) (Nat.le_refl _)).trans (skipD_end (L := bytesOf s) (k := s.size) (Nat.le_refl _)).symm)
            clear h10 hjk
            go_wp2
            go_round
            case rel => exact ⟨s.size, hj, rfl, by rw [← HE.out]; exact HR.out⟩
            case measure => simp [intOf] <;> omega
    · obtain rfl : k = s.size := by omega
      have HE := Lib.hid (skipD_end (L := bytesOf s) (k := s.size) (Nat.le_refl _))
      go_wp2
      go_ret
      exact ⟨ret_i (HE.out.symm.trans HR.out), rfl⟩
end Go.Proofs.YtihfllkgoolkhaaDoor
