/-
  Layer 1 (scan): the walks of letter, digit, alnum, row and skip of package scan.
-/
import Derived.Test.YtihfllkgoolkhaaDoorScanA
import Derived.LoopTactic
namespace Go.Proofs.YtihfllkgoolkhaaDoor
open Go.RowKit
set_option linter.unusedSimpArgs false
set_option linter.unusedVariables false
abbrev bytesOf (s : ByteArray) : List UInt8 := s.data.toList
theorem byte_get {s : ByteArray} {k : Nat} (h : k < s.size) : (bytesOf s).getD k 0 = s[k] := by
  have h2 : k < s.data.toList.length := h
  rw [bytesOf, List.getD_eq_getElem?_getD, List.getElem?_eq_getElem h2]; rfl
theorem ret_i {a b : Nat} (h : a = b) : Ending.returned (.int .i64 (a : Int)) = .returned (.int .i64 (b : Int)) := by rw [h]
theorem bytes_len (s : ByteArray) : (bytesOf s).length = s.size := rfl
theorem letterP (c : UInt8) (w : World) : Calls Tryd.prog 25 #[.int .u8 (c.toNat : Int)] w fun e w' => e = .returned (.bool (letterB c)) ∧ w = w' := by
  have hc := c.toNat_lt
  rcases (by omega : c.toNat < 97 ∨ (97 ≤ c.toNat ∧ c.toNat ≤ 122) ∨ 122 < c.toNat) with h1 | ⟨h1, h2⟩ | h1
  · have e1 : decide ((97 : Int) ≤ (c.toNat : Int)) = false := by simp; omega
    have e0 : letterB c = false := by simp [letterB]; omega
    rw [e0]
    go_enter Tryd.func25, Tryd.ntmps25
    go_wp2
    go_ret
    exact ⟨rfl, rfl⟩
  · have e1 : decide ((97 : Int) ≤ (c.toNat : Int)) = true := by simp; omega
    have e2 : decide ((c.toNat : Int) ≤ 122) = true := by simp; omega
    have e0 : letterB c = true := by simp [letterB]; omega
    rw [e0]
    go_enter Tryd.func25, Tryd.ntmps25
    go_wp2
    go_ret
    exact ⟨rfl, rfl⟩
  · have e1 : decide ((97 : Int) ≤ (c.toNat : Int)) = true := by simp; omega
    have e2 : decide ((c.toNat : Int) ≤ 122) = false := by simp; omega
    have e0 : letterB c = false := by simp [letterB]; omega
    rw [e0]
    go_enter Tryd.func25, Tryd.ntmps25
    go_wp2
    go_ret
    exact ⟨rfl, rfl⟩
theorem digitP (c : UInt8) (w : World) : Calls Tryd.prog 34 #[.int .u8 (c.toNat : Int)] w fun e w' => e = .returned (.bool (digitB c)) ∧ w = w' := by
  have hc := c.toNat_lt
  rcases (by omega : c.toNat < 48 ∨ (48 ≤ c.toNat ∧ c.toNat ≤ 57) ∨ 57 < c.toNat) with h1 | ⟨h1, h2⟩ | h1
  · have e1 : decide ((48 : Int) ≤ (c.toNat : Int)) = false := by simp; omega
    have e0 : digitB c = false := by simp [digitB]; omega
    rw [e0]
    go_enter Tryd.func34, Tryd.ntmps34
    go_wp2
    go_ret
    exact ⟨rfl, rfl⟩
  · have e1 : decide ((48 : Int) ≤ (c.toNat : Int)) = true := by simp; omega
    have e2 : decide ((c.toNat : Int) ≤ 57) = true := by simp; omega
    have e0 : digitB c = true := by simp [digitB]; omega
    rw [e0]
    go_enter Tryd.func34, Tryd.ntmps34
    go_wp2
    go_ret
    exact ⟨rfl, rfl⟩
  · have e1 : decide ((48 : Int) ≤ (c.toNat : Int)) = true := by simp; omega
    have e2 : decide ((c.toNat : Int) ≤ 57) = false := by simp; omega
    have e0 : digitB c = false := by simp [digitB]; omega
    rw [e0]
    go_enter Tryd.func34, Tryd.ntmps34
    go_wp2
    go_ret
    exact ⟨rfl, rfl⟩
theorem alnumP (c : UInt8) (w : World) : Calls Tryd.prog 27 #[.int .u8 (c.toNat : Int)] w fun e w' => e = .returned (.bool (alnumB c)) ∧ w = w' := by
  cases hl : letterB c
  · have e0 : alnumB c = digitB c := by rw [alnumB, hl]; rfl
    rw [e0]
    go_enter Tryd.func27, Tryd.ntmps27
    go_wp2_with (first
      | (go_at_call 25; refine (letterP _ _).mono ?_; rintro e w' ⟨rfl, rfl⟩)
      | (go_at_call 34; refine (digitP _ _).mono ?_; rintro e w' ⟨rfl, rfl⟩))
    go_ret
    exact ⟨rfl, rfl⟩
  · have e0 : alnumB c = true := by rw [alnumB, hl]; rfl
    rw [e0]
    go_enter Tryd.func27, Tryd.ntmps27
    go_wp2_with (go_at_call 25; refine (letterP _ _).mono ?_; rintro e w' ⟨rfl, rfl⟩)
    go_ret
    exact ⟨rfl, rfl⟩
theorem noNlP (c : UInt8) (w : World) : Calls Tryd.prog 39 #[.int .u8 (c.toNat : Int)] w fun e w' => e = .returned (.bool (noNl c)) ∧ w = w' := by
  have hc := c.toNat_lt
  by_cases h : c = 10
  · subst h
    go_enter Tryd.func39, Tryd.ntmps39
    go_wp2
    go_ret
    exact ⟨rfl, rfl⟩
  · have h2 : (c.toNat : Int) ≠ 10 := fun e => h (UInt8.toNat_inj.1 (by have : (10 : UInt8).toNat = 10 := rfl; omega))
    have e0 : noNl c = true := by simp [noNl, h]
    have e1 : ((c.toNat : Int) != 10) = true := by simpa using h2
    rw [e0]
    go_enter Tryd.func39, Tryd.ntmps39
    go_wp2
    go_ret
    exact ⟨rfl, rfl⟩
set_option maxHeartbeats 400000 in
theorem row_alnumB (s : ByteArray) (a : Nat) (ha : a ≤ s.size) (hs : s.size ≤ maxLen) (w : World) : Calls Tryd.prog 26 #[.string s, .int .i64 (a : Int), .func (.func 27) #[] #[]] w fun e w' => e = .returned (.int .i64 (rowD alnumB (bytesOf s) a : Nat)) ∧ w = w' := by
  unfold maxLen at hs
  go_enter Tryd.func26, Tryd.ntmps26
  go_wp2
  go_loop [1] (fun i => ∃ k : Nat, k ≤ s.size ∧ i = .int .i64 k ∧ rowD alnumB (bytesOf s) k = rowD alnumB (bytesOf s) a) (fun i => s.size - (intOf i).toNat)
  case atStart => exact ⟨a, ha, rfl, rfl⟩
  case round =>
    obtain ⟨k, hk, rfl, hr⟩ := hrel
    have HR := Lib.hid hr
    clear hr
    by_cases hlt : k < s.size
    · cases hp : alnumB s[k]
      · have HE := Lib.hid (rowD_no (p := alnumB) (L := bytesOf s) hlt (by rw [byte_get hlt]; exact hp))
        go_wp2_with (go_at_call 27; refine (alnumP _ _).mono ?_; rintro e w' ⟨rfl, rfl⟩)
        go_ret
        exact ⟨ret_i (HE.out.symm.trans HR.out), rfl⟩
      · have HE := Lib.hid (rowD_yes (p := alnumB) (L := bytesOf s) hlt (by rw [byte_get hlt]; exact hp))
        go_wp2_with (go_at_call 27; refine (alnumP _ _).mono ?_; rintro e w' ⟨rfl, rfl⟩)
        go_round
        case rel => exact ⟨k + 1, by omega, by go_num, by rw [← HE.out]; exact HR.out⟩
        case measure => simp [intOf] <;> omega
    · obtain rfl : k = s.size := by omega
      have HE := Lib.hid (rowD_end (p := alnumB) (L := bytesOf s) (k := s.size) (Nat.le_refl _))
      go_wp2
      go_ret
      exact ⟨ret_i (HE.out.symm.trans HR.out), rfl⟩
set_option maxHeartbeats 400000 in
theorem row_digitB (s : ByteArray) (a : Nat) (ha : a ≤ s.size) (hs : s.size ≤ maxLen) (w : World) : Calls Tryd.prog 26 #[.string s, .int .i64 (a : Int), .func (.func 34) #[] #[]] w fun e w' => e = .returned (.int .i64 (rowD digitB (bytesOf s) a : Nat)) ∧ w = w' := by
  unfold maxLen at hs
  go_enter Tryd.func26, Tryd.ntmps26
  go_wp2
  go_loop [1] (fun i => ∃ k : Nat, k ≤ s.size ∧ i = .int .i64 k ∧ rowD digitB (bytesOf s) k = rowD digitB (bytesOf s) a) (fun i => s.size - (intOf i).toNat)
  case atStart => exact ⟨a, ha, rfl, rfl⟩
  case round =>
    obtain ⟨k, hk, rfl, hr⟩ := hrel
    have HR := Lib.hid hr
    clear hr
    by_cases hlt : k < s.size
    · cases hp : digitB s[k]
      · have HE := Lib.hid (rowD_no (p := digitB) (L := bytesOf s) hlt (by rw [byte_get hlt]; exact hp))
        go_wp2_with (go_at_call 34; refine (digitP _ _).mono ?_; rintro e w' ⟨rfl, rfl⟩)
        go_ret
        exact ⟨ret_i (HE.out.symm.trans HR.out), rfl⟩
      · have HE := Lib.hid (rowD_yes (p := digitB) (L := bytesOf s) hlt (by rw [byte_get hlt]; exact hp))
        go_wp2_with (go_at_call 34; refine (digitP _ _).mono ?_; rintro e w' ⟨rfl, rfl⟩)
        go_round
        case rel => exact ⟨k + 1, by omega, by go_num, by rw [← HE.out]; exact HR.out⟩
        case measure => simp [intOf] <;> omega
    · obtain rfl : k = s.size := by omega
      have HE := Lib.hid (rowD_end (p := digitB) (L := bytesOf s) (k := s.size) (Nat.le_refl _))
      go_wp2
      go_ret
      exact ⟨ret_i (HE.out.symm.trans HR.out), rfl⟩
set_option maxHeartbeats 400000 in
theorem row_noNl (s : ByteArray) (a : Nat) (ha : a ≤ s.size) (hs : s.size ≤ maxLen) (w : World) : Calls Tryd.prog 26 #[.string s, .int .i64 (a : Int), .func (.func 39) #[] #[]] w fun e w' => e = .returned (.int .i64 (rowD noNl (bytesOf s) a : Nat)) ∧ w = w' := by
  unfold maxLen at hs
  go_enter Tryd.func26, Tryd.ntmps26
  go_wp2
  go_loop [1] (fun i => ∃ k : Nat, k ≤ s.size ∧ i = .int .i64 k ∧ rowD noNl (bytesOf s) k = rowD noNl (bytesOf s) a) (fun i => s.size - (intOf i).toNat)
  case atStart => exact ⟨a, ha, rfl, rfl⟩
  case round =>
    obtain ⟨k, hk, rfl, hr⟩ := hrel
    have HR := Lib.hid hr
    clear hr
    by_cases hlt : k < s.size
    · cases hp : noNl s[k]
      · have HE := Lib.hid (rowD_no (p := noNl) (L := bytesOf s) hlt (by rw [byte_get hlt]; exact hp))
        go_wp2_with (go_at_call 39; refine (noNlP _ _).mono ?_; rintro e w' ⟨rfl, rfl⟩)
        go_ret
        exact ⟨ret_i (HE.out.symm.trans HR.out), rfl⟩
      · have HE := Lib.hid (rowD_yes (p := noNl) (L := bytesOf s) hlt (by rw [byte_get hlt]; exact hp))
        go_wp2_with (go_at_call 39; refine (noNlP _ _).mono ?_; rintro e w' ⟨rfl, rfl⟩)
        go_round
        case rel => exact ⟨k + 1, by omega, by go_num, by rw [← HE.out]; exact HR.out⟩
        case measure => simp [intOf] <;> omega
    · obtain rfl : k = s.size := by omega
      have HE := Lib.hid (rowD_end (p := noNl) (L := bytesOf s) (k := s.size) (Nat.le_refl _))
      go_wp2
      go_ret
      exact ⟨ret_i (HE.out.symm.trans HR.out), rfl⟩
end Go.Proofs.YtihfllkgoolkhaaDoor
