/-
  Layer 1 (scan): the walk of the reference's value.
-/
import Derived.Test.YtihfllkgoolkhaaDoorScanS
namespace Go.Proofs.YtihfllkgoolkhaaDoor
open Go.RowKit
set_option linter.unusedSimpArgs false
set_option linter.unusedVariables false
set_option maxHeartbeats 2000000 in
theorem valueBad (s : ByteArray) (h1 : 1 < s.size) (hs : s.size ≤ 65536) (h48 : (((s[0]).toNat : Int) == 48) = true) (w : World) :
    Calls Tryd.prog 37 #[.string s] w fun e w' => e = .returned (.tuple #[.int .i64 0, .bool false]) ∧ w = w' := by
  have hd : decide ((1 : Int) < (s.size : Int)) = true := by simp; omega
  go_enter Tryd.func37, Tryd.ntmps37
  go_wp2
  refine ret_of ?_ rfl
  refine ⟨_, by simp [results, Tryd.results37, go_sem], rfl, rfl⟩
def valQ (L : List UInt8) : Ending := if 9223372036854775807 < valN L then .returned (.tuple #[.int .i64 0, .bool false]) else .returned (.tuple #[.int .i64 (valN L : Nat), .bool true])
theorem value_step {L : List UInt8} {k n : Nat} {c : UInt8} (h : k < L.length) (hc : L.getD k 0 = c) : valF n (L.drop k) = valF (10 * n + (c.toNat - 48)) (L.drop (k + 1)) := by
  rw [drop_get h, hc, valF_cons]
theorem valQ_bad {L : List UInt8} (h : 9223372036854775807 < valN L) : valQ L = .returned (.tuple #[.int .i64 0, .bool false]) := if_pos h
theorem valQ_ok {L : List UInt8} (h : ¬ 9223372036854775807 < valN L) : valQ L = .returned (.tuple #[.int .i64 (valN L : Nat), .bool true]) := if_neg h
set_option maxHeartbeats 2000000 in
theorem valueGood (s : ByteArray) (hs : s.size ≤ 65536) (ha : ∀ k (h : k < s.size), digitB s[k] = true) (h48 : 1 < s.size → ∀ h : 0 < s.size, (((s[0]).toNat : Int) == 48) = false) (w : World) :
    Calls Tryd.prog 37 #[.string s] w fun e w' => e = valQ (bytesOf s) ∧ w = w' := by
  have HA := Lib.hid ha
  clear ha
  by_cases h1 : 1 < s.size
  · have hd : decide ((1 : Int) < (s.size : Int)) = true := by simp; omega
    have h48' := h48 h1 (by omega)
    clear h48
    go_enter Tryd.func37, Tryd.ntmps37
    go_wp2
    go_loop [4, 5] (fun n i => ∃ k m : Nat, k ≤ s.size ∧ i = .int .i64 k ∧ n = .int .i64 m ∧ m < 9223372036854775808 ∧ valF m ((bytesOf s).drop k) = valN (bytesOf s)) (fun _ i => s.size - (intOf i).toNat)
    case atStart => exact ⟨0, 0, Nat.zero_le _, rfl, rfl, by decide, rfl⟩
    case round =>
      obtain ⟨k, m, hk, rfl, rfl, hm, hr⟩ := hrel
      have HR := Lib.hid hr
      have HM := Lib.hid hm
      clear hr hm h48'
      by_cases hlt : k < s.size
      · have hg := byte_get hlt
        have HE := Lib.hid (value_step (L := bytesOf s) (n := m) hlt hg)
        have hdg := HA.out k hlt
        simp only [digitB, Bool.and_eq_true, decide_eq_true_eq] at hdg
        obtain ⟨d1, d2⟩ := hdg
        clear hg
        go_wp2
        · refine ret_of ?_ rfl
          refine ⟨_, by simp [results, Tryd.results37, go_sem]; rfl, ?_, rfl⟩
          refine (valQ_bad ?_).symm
          have hx : 9223372036854775807 < 10 * m + ((s[k]).toNat - 48) := by omega
          have hy := valF_ge ((bytesOf s).drop (k + 1)) (10 * m + ((s[k]).toNat - 48))
          rw [← HR.out, HE.out]
          exact Nat.lt_of_lt_of_le hx hy
        · refine ⟨⟨k + 1, 10 * m + ((s[k]).toNat - 48), by omega, by go_num, ?_, by omega, by rw [← HE.out]; exact HR.out⟩, by simp [intOf] <;> omega⟩
          congr 1
          omega
      · obtain rfl : k = s.size := by omega
        have HE := Lib.hid (show valN (bytesOf s) = m by rw [← HR.out, List.drop_eq_nil_of_le (Nat.le_of_eq (bytes_len s))]; rfl)
        go_wp2
        refine ret_of ?_ rfl
        refine ⟨_, by simp [results, Tryd.results37, go_sem]; rfl, ?_, rfl⟩
        have hm := HM.out
        rw [valQ_ok (by rw [HE.out]; omega), HE.out]
  · have hd : decide ((1 : Int) < (s.size : Int)) = false := by simp; omega
    clear h48
    go_enter Tryd.func37, Tryd.ntmps37
    go_wp2
    go_loop [4, 5] (fun n i => ∃ k m : Nat, k ≤ s.size ∧ i = .int .i64 k ∧ n = .int .i64 m ∧ m < 9223372036854775808 ∧ valF m ((bytesOf s).drop k) = valN (bytesOf s)) (fun _ i => s.size - (intOf i).toNat)
    case atStart => exact ⟨0, 0, Nat.zero_le _, rfl, rfl, by decide, rfl⟩
    case round =>
      obtain ⟨k, m, hk, rfl, rfl, hm, hr⟩ := hrel
      have HR := Lib.hid hr
      have HM := Lib.hid hm
      clear hr hm
      by_cases hlt : k < s.size
      · have hg := byte_get hlt
        have HE := Lib.hid (value_step (L := bytesOf s) (n := m) hlt hg)
        have hdg := HA.out k hlt
        simp only [digitB, Bool.and_eq_true, decide_eq_true_eq] at hdg
        obtain ⟨d1, d2⟩ := hdg
        clear hg
        go_wp2
        · refine ret_of ?_ rfl
          refine ⟨_, by simp [results, Tryd.results37, go_sem]; rfl, ?_, rfl⟩
          refine (valQ_bad ?_).symm
          have hx : 9223372036854775807 < 10 * m + ((s[k]).toNat - 48) := by omega
          have hy := valF_ge ((bytesOf s).drop (k + 1)) (10 * m + ((s[k]).toNat - 48))
          rw [← HR.out, HE.out]
          exact Nat.lt_of_lt_of_le hx hy
        · refine ⟨⟨k + 1, 10 * m + ((s[k]).toNat - 48), by omega, by go_num, ?_, by omega, by rw [← HE.out]; exact HR.out⟩, by simp [intOf] <;> omega⟩
          congr 1
          omega
      · obtain rfl : k = s.size := by omega
        have HE := Lib.hid (show valN (bytesOf s) = m by rw [← HR.out, List.drop_eq_nil_of_le (Nat.le_of_eq (bytes_len s))]; rfl)
        go_wp2
        refine ret_of ?_ rfl
        refine ⟨_, by simp [results, Tryd.results37, go_sem]; rfl, ?_, rfl⟩
        have hm := HM.out
        rw [valQ_ok (by rw [HE.out]; omega), HE.out]
end Go.Proofs.YtihfllkgoolkhaaDoor
