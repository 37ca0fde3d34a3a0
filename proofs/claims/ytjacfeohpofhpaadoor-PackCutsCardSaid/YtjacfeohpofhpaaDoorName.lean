import Derived.Test.YtjacfeohpofhpaaDoorTab
namespace Go.Proofs.YtjacfeohpofhpaaDoor
open Go.RowKit
set_option linter.unusedSimpArgs false
set_option linter.unusedVariables false

def byteAt (s : ByteArray) (k : Nat) : Nat := (s.data.toList.getD k 0).toNat
/-- May byte c stand at place k of a name? -/
def nameByte (k c : Nat) : Bool := (decide (97 ≤ c) && decide (c ≤ 122)) || (!decide (k = 0) && (decide (48 ≤ c) && decide (c ≤ 57)))
def nameTo (s : ByteArray) : Nat → Bool
  | 0 => true
  | k + 1 => nameTo s k && nameByte k (byteAt s k)
def isNameB (s : ByteArray) : Bool := nameTo s s.size && decide (0 < s.size) && decide (s.size ≤ 16)
theorem nameTo_mono {s : ByteArray} {k n : Nat} (h : nameTo s k = false) (hk : k ≤ n) : nameTo s n = false := by
  induction n with
  | zero => obtain rfl : k = 0 := by omega
            exact h
  | succ n ih =>
    rcases Nat.lt_or_ge n k with h1 | h1
    · obtain rfl : k = n + 1 := by omega
      exact h
    · simp [nameTo, ih h1]
theorem isNameB_no {s : ByteArray} {k : Nat} (h : nameTo s k = true) (hk : k < s.size) (hb : nameByte k (byteAt s k) = false) : isNameB s = false := by
  have : nameTo s (k + 1) = false := by simp [nameTo, hb]
  simp [isNameB, nameTo_mono this hk]

set_option maxHeartbeats 400000 in
theorem isNameP (s : ByteArray) (w : World) (hs : s.size ≤ maxLen) : Calls Tryd.prog 35 #[.string s] w fun e w' => e = .returned (.bool (isNameB s)) ∧ w = w' := by
  unfold maxLen at hs
  go_enter Tryd.func35, Tryd.ntmps35
  go_wp2
  go_loop [7] (fun i => ∃ k : Nat, k ≤ s.size ∧ i = .int .i64 k ∧ nameTo s k = true) (fun i => s.size - (intOf i).toNat)
  case atStart => exact ⟨0, Nat.zero_le _, rfl, rfl⟩
  case round =>
    obtain ⟨k, hk, rfl, hn⟩ := hrel
    have HN := Lib.hid hn; clear hn
    by_cases hlt : k < s.size
    · have hbyte : byteAt s k = s[k].toNat := by simp [byteAt, hlt]; rfl
      have HB := Lib.hid hbyte; clear hbyte
      have hok : nameByte k (byteAt s k) = true → nameTo s (k + 1) = true := fun h => by simp [nameTo, HN.out, h]
      have hno : nameByte k (byteAt s k) = false → isNameB s = false := isNameB_no HN.out hlt
      have HO := Lib.hid hok; clear hok
      have HX := Lib.hid hno; clear hno
      have hcase : (97 ≤ s[k].toNat ∧ s[k].toNat ≤ 122) ∨ (s[k].toNat < 97 ∧ k = 0) ∨ (122 < s[k].toNat ∧ k = 0) ∨ (0 < k ∧ 48 ≤ s[k].toNat ∧ s[k].toNat ≤ 57) ∨ (0 < k ∧ s[k].toNat < 48) ∨ (0 < k ∧ 57 < s[k].toNat ∧ s[k].toNat < 97) ∨ (0 < k ∧ 122 < s[k].toNat) := by omega
      rcases hcase with ⟨h1, h2⟩ | ⟨h1, h2⟩ | ⟨h1, h2⟩ | ⟨h1, h2, h3⟩ | ⟨h1, h2⟩ | ⟨h1, h2, h3⟩ | ⟨h1, h2⟩
      · have e1 : decide ((97 : Int) ≤ (s[k].toNat : Int)) = true := by simp; omega
        have e2 : decide ((s[k].toNat : Int) ≤ 122) = true := by simp; omega
        go_wp2
        go_round
        case rel => exact ⟨k + 1, by omega, by go_num, HO.out (by rw [HB.out]; simp [nameByte]; omega)⟩
        case measure => simp [intOf]; omega
      · subst h2
        have e1 : decide ((97 : Int) ≤ (s[0].toNat : Int)) = false := by simp; omega
        go_wp2
        go_ret
        exact ⟨by rw [HX.out (by rw [HB.out]; simp [nameByte]; omega)]; rfl, rfl⟩
      · subst h2
        have e1 : decide ((97 : Int) ≤ (s[0].toNat : Int)) = true := by simp; omega
        have e2 : decide ((s[0].toNat : Int) ≤ 122) = false := by simp; omega
        go_wp2
        go_ret
        exact ⟨by rw [HX.out (by rw [HB.out]; simp [nameByte]; omega)]; rfl, rfl⟩
      · have e1 : decide ((97 : Int) ≤ (s[k].toNat : Int)) = false := by simp; omega
        have e3 : (((k : Nat) : Int) == 0) = false := by simp; omega
        have e4 : decide ((s[k].toNat : Int) < 48) = false := by simp; omega
        have e5 : decide ((57 : Int) < (s[k].toNat : Int)) = false := by simp; omega
        go_wp2
        go_round
        case rel => exact ⟨k + 1, by omega, by go_num, HO.out (by rw [HB.out]; simp [nameByte]; omega)⟩
        case measure => simp [intOf]; omega
      · have e1 : decide ((97 : Int) ≤ (s[k].toNat : Int)) = false := by simp; omega
        have e3 : (((k : Nat) : Int) == 0) = false := by simp; omega
        have e4 : decide ((s[k].toNat : Int) < 48) = true := by simp; omega
        go_wp2
        go_ret
        exact ⟨by rw [HX.out (by rw [HB.out]; simp [nameByte]; omega)]; rfl, rfl⟩
      · have e1 : decide ((97 : Int) ≤ (s[k].toNat : Int)) = false := by simp; omega
        have e3 : (((k : Nat) : Int) == 0) = false := by simp; omega
        have e4 : decide ((s[k].toNat : Int) < 48) = false := by simp; omega
        have e5 : decide ((57 : Int) < (s[k].toNat : Int)) = true := by simp; omega
        go_wp2
        go_ret
        exact ⟨by rw [HX.out (by rw [HB.out]; simp [nameByte]; omega)]; rfl, rfl⟩
      · have e1 : decide ((97 : Int) ≤ (s[k].toNat : Int)) = true := by simp; omega
        have e2 : decide ((s[k].toNat : Int) ≤ 122) = false := by simp; omega
        have e3 : (((k : Nat) : Int) == 0) = false := by simp; omega
        have e4 : decide ((s[k].toNat : Int) < 48) = false := by simp; omega
        have e5 : decide ((57 : Int) < (s[k].toNat : Int)) = true := by simp; omega
        go_wp2
        go_ret
        exact ⟨by rw [HX.out (by rw [HB.out]; simp [nameByte]; omega)]; rfl, rfl⟩
    · have hkk : k = s.size := by omega
      subst hkk
      have hfin : isNameB s = (decide (0 < s.size) && decide (s.size ≤ 16)) := by simp [isNameB, HN.out]
      have HF := Lib.hid hfin; clear hfin
      have hz : s.toList = [] ↔ s.size = 0 := by rw [ByteArray.toList_eq, ← List.length_eq_zero_iff, Array.length_toList]; rfl
      by_cases h0 : s.size = 0
      · have e1 : s.toList = [] := hz.2 h0
        have e2 : (!s.toList.isEmpty) = false := by simp [e1]
        clear hz
        have H0 := Lib.hid h0; clear h0
        go_wp2
        go_ret
        exact ⟨by rw [HF.out, H0.out]; rfl, rfl⟩
      · have e1 : ¬ s.toList = [] := fun h => h0 (hz.1 h)
        have e2 : (!s.toList.isEmpty) = true := by simp [e1]
        clear hz
        go_wp2
        go_ret
        have h1 : 0 < s.size := by omega
        have e3 : decide ((s.size : Int) ≤ 16) = decide (s.size ≤ 16) := by rw [Bool.eq_iff_iff]; simp; omega
        refine ⟨?_, rfl⟩
        rw [HF.out]
        show Ending.returned (.bool (decide ((s.size : Int) ≤ 16))) = _
        rw [e3]; simp [h1]
end Go.Proofs.YtjacfeohpofhpaaDoor
