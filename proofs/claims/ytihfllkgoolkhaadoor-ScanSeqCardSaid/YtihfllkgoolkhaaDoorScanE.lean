/-
  Layer 1 (scan): the walks of Name and next of package scan.
-/
import Derived.Test.YtihfllkgoolkhaaDoorScanD
import Derived.Test.YtihfllkgoolkhaaDoorShelf
namespace Go.Proofs.YtihfllkgoolkhaaDoor
open Go.RowKit
set_option linter.unusedSimpArgs false
set_option linter.unusedVariables false
/-- What may be a name. -/
def nameB (L : List UInt8) : Bool := (!(L.length == 0)) && letterB (L.getD 0 0) && decide (L.length ≤ 16) && (rowD alnumB L 0 == L.length) && !wordB L
set_option maxHeartbeats 2000000 in
theorem nameP (s : ByteArray) (hs : s.size ≤ maxLen) (w : World) : Calls Tryd.prog 17 #[.string s] w fun e w' => e = .returned (.bool (nameB (bytesOf s))) ∧ w = w' := by
  have hs2 := hs
  unfold maxLen at hs
  by_cases h0 : s.size = 0
  · have ht : (s.toList == []) = true := by
      rw [ByteArray.toList_eq, beq_iff_eq]; exact List.length_eq_zero_iff.1 h0
    have e0 : nameB (bytesOf s) = false := by simp [nameB, bytes_len, h0]
    rw [e0]
    go_enter Tryd.func17, Tryd.ntmps17
    go_wp2
    go_ret
    exact ⟨rfl, rfl⟩
  have ht : (s.toList == []) = false := by
    rw [ByteArray.toList_eq, beq_eq_false_iff_ne]; intro e; exact h0 (List.length_eq_zero_iff.2 e)
  have hp : 0 < s.size := by omega
  have hg := byte_get hp
  have hR := row_alnumB s 0 (Nat.zero_le _) hs2
  cases hl : letterB s[0]
  · have e0 : nameB (bytesOf s) = false := by rw [nameB, hg, hl]; simp
    rw [e0]
    go_enter Tryd.func17, Tryd.ntmps17
    go_wp2_with (go_at_call 25; refine (letterP _ _).mono ?_; rintro e w' ⟨rfl, rfl⟩)
    go_ret
    exact ⟨rfl, rfl⟩
  by_cases h16 : 16 < s.size
  · have e0 : nameB (bytesOf s) = false := by rw [nameB, bytes_len, show decide (s.size ≤ 16) = false by simp; omega]; simp
    have hd : decide ((16 : Int) < s.size) = true := by simp; omega
    rw [e0]
    go_enter Tryd.func17, Tryd.ntmps17
    go_wp2_with (go_at_call 25; refine (letterP _ _).mono ?_; rintro e w' ⟨rfl, rfl⟩)
    go_ret
    exact ⟨rfl, rfl⟩
  have hd : decide ((16 : Int) < s.size) = false := by simp; omega
  have e1 : nameB (bytesOf s) = ((((rowD alnumB (bytesOf s) 0 : Nat) : Int) == (s.size : Int)) && !wordB (bytesOf s)) := by
    rw [nameB, hg, hl, bytes_len, show decide (s.size ≤ 16) = true by simp; omega, show (s.size == 0) = false by simpa using h0]
    rw [show (((rowD alnumB (bytesOf s) 0 : Nat) : Int) == (s.size : Int)) = (rowD alnumB (bytesOf s) 0 == s.size) from by rw [Bool.eq_iff_iff, beq_iff_eq, beq_iff_eq]; omega]
    simp
  rw [e1]
  generalize rowD alnumB (bytesOf s) 0 = m at *
  cases hm : ((m : Int) == (s.size : Int))
  · go_enter Tryd.func17, Tryd.ntmps17
    go_wp2_with (first
      | (go_at_call 25; refine (letterP _ _).mono ?_; rintro e w' ⟨rfl, rfl⟩)
      | (go_at_call 26; refine (hR _).mono ?_; rintro e w' ⟨rfl, rfl⟩))
    go_ret
    exact ⟨rfl, rfl⟩
  · cases hw : wordB (bytesOf s)
    all_goals
      go_enter Tryd.func17, Tryd.ntmps17
      go_wp2_with (first
        | (go_at_call 25; refine (letterP _ _).mono ?_; rintro e w' ⟨rfl, rfl⟩)
        | (go_at_call 26; refine (hR _).mono ?_; rintro e w' ⟨rfl, rfl⟩)
        | (go_at_call 15; refine (wordP _ _).mono ?_; rintro e w' ⟨rfl, rfl⟩))
      go_ret
      exact ⟨rfl, rfl⟩
end Go.Proofs.YtihfllkgoolkhaaDoor
