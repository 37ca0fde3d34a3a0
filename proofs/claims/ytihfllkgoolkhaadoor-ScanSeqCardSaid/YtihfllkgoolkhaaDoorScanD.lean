/-
  Layer 1 (scan): the walks of Word and sign of package scan.
-/
import Derived.Test.YtihfllkgoolkhaaDoorScanC
namespace Go.Proofs.YtihfllkgoolkhaaDoor
open Go.RowKit
set_option linter.unusedSimpArgs false
set_option linter.unusedVariables false
theorem ret_b {a b : Bool} (h : a = b) : Ending.returned (.bool a) = .returned (.bool b) := by rw [h]
theorem wordB_or (t : List UInt8) : wordB t = (t == [119, 105, 100, 101, 110] || t == [102, 110] || t == [108, 101, 116] || t == [102, 111, 114] || t == [105, 110] || t == [105, 102] || t == [101, 108, 115, 101] || t == [115, 119, 105, 116, 99, 104] || t == [99, 97, 115, 101] || t == [98, 114, 101, 97, 107] || t == [114, 101, 116, 117, 114, 110]) := by
  simp only [wordB, wordsL, List.any_cons, List.any_nil, Bool.or_false, Bool.or_assoc]
  simp only [BEq.comm]
theorem wordP (s : ByteArray) (w : World) : Calls Tryd.prog 15 #[.string s] w fun e w' => e = .returned (.bool (wordB (bytesOf s))) ∧ w = w' := by
  rw [show bytesOf s = s.toList from (ByteArray.toList_eq s).symm, wordB_or]
  go_enter Tryd.func15, Tryd.ntmps15
  go_wp2
  all_goals first | (exfalso; simp_all; done) | skip
  all_goals go_ret
  all_goals exact ⟨ret_b (by simp [*]), rfl⟩
theorem cut_ext (s : ByteArray) (a b : Nat) : (s.extract a b).data.toList = ((bytesOf s).drop a).take (b - a) := by
  rw [bytesOf, ByteArray.data_extract, Array.toList_extract, List.extract_eq_take_drop]
theorem twoB_or (s : ByteArray) (a : Nat) : twoB ((bytesOf s).drop a) = ((s.extract a (a + 2)).toList == [61, 61] || (s.extract a (a + 2)).toList == [33, 61] || (s.extract a (a + 2)).toList == [60, 61] || (s.extract a (a + 2)).toList == [62, 61] || (s.extract a (a + 2)).toList == [38, 38] || (s.extract a (a + 2)).toList == [124, 124] || (s.extract a (a + 2)).toList == [46, 46]) := by
  have e : (s.extract a (a + 2)).toList = ((bytesOf s).drop a).take 2 := by
    rw [ByteArray.toList_eq, cut_ext, show a + 2 - a = 2 by omega]
  rw [e]
  simp only [twoB, twoL, List.any_cons, List.any_nil, Bool.or_false, Bool.or_assoc]
  simp only [BEq.comm]
theorem byte_eq (c : UInt8) (n : Nat) (hn : n < 256) : ((c.toNat : Int) == (n : Int)) = (UInt8.ofNat n == c) := by
  rw [Bool.eq_iff_iff, beq_iff_eq, beq_iff_eq]
  constructor
  · intro h
    apply UInt8.toNat_inj.1
    rw [UInt8.toNat_ofNat', Nat.mod_eq_of_lt hn]; omega
  · intro h
    rw [← h, UInt8.toNat_ofNat', Nat.mod_eq_of_lt hn]
theorem oneB_or (c : UInt8) : oneB c = ((c.toNat : Int) == 40 || (c.toNat : Int) == 41 || (c.toNat : Int) == 123 || (c.toNat : Int) == 125 || (c.toNat : Int) == 91 || (c.toNat : Int) == 93 || (c.toNat : Int) == 44 || (c.toNat : Int) == 59 || (c.toNat : Int) == 58 || (c.toNat : Int) == 63 || (c.toNat : Int) == 61 || (c.toNat : Int) == 60 || (c.toNat : Int) == 62 || (c.toNat : Int) == 43 || (c.toNat : Int) == 45 || (c.toNat : Int) == 42 || (c.toNat : Int) == 47 || (c.toNat : Int) == 37 || (c.toNat : Int) == 33) := by
  rw [show ((c.toNat : Int) == 40) = (40 == c) from byte_eq c 40 (by decide)]
  rw [show ((c.toNat : Int) == 41) = (41 == c) from byte_eq c 41 (by decide)]
  rw [show ((c.toNat : Int) == 123) = (123 == c) from byte_eq c 123 (by decide)]
  rw [show ((c.toNat : Int) == 125) = (125 == c) from byte_eq c 125 (by decide)]
  rw [show ((c.toNat : Int) == 91) = (91 == c) from byte_eq c 91 (by decide)]
  rw [show ((c.toNat : Int) == 93) = (93 == c) from byte_eq c 93 (by decide)]
  rw [show ((c.toNat : Int) == 44) = (44 == c) from byte_eq c 44 (by decide)]
  rw [show ((c.toNat : Int) == 59) = (59 == c) from byte_eq c 59 (by decide)]
  rw [show ((c.toNat : Int) == 58) = (58 == c) from byte_eq c 58 (by decide)]
  rw [show ((c.toNat : Int) == 63) = (63 == c) from byte_eq c 63 (by decide)]
  rw [show ((c.toNat : Int) == 61) = (61 == c) from byte_eq c 61 (by decide)]
  rw [show ((c.toNat : Int) == 60) = (60 == c) from byte_eq c 60 (by decide)]
  rw [show ((c.toNat : Int) == 62) = (62 == c) from byte_eq c 62 (by decide)]
  rw [show ((c.toNat : Int) == 43) = (43 == c) from byte_eq c 43 (by decide)]
  rw [show ((c.toNat : Int) == 45) = (45 == c) from byte_eq c 45 (by decide)]
  rw [show ((c.toNat : Int) == 42) = (42 == c) from byte_eq c 42 (by decide)]
  rw [show ((c.toNat : Int) == 47) = (47 == c) from byte_eq c 47 (by decide)]
  rw [show ((c.toNat : Int) == 37) = (37 == c) from byte_eq c 37 (by decide)]
  rw [show ((c.toNat : Int) == 33) = (33 == c) from byte_eq c 33 (by decide)]
  simp only [oneB, oneL, List.any_cons, List.any_nil, Bool.or_false, Bool.or_assoc]
theorem twoB_short {L : List UInt8} {a : Nat} (h : ¬ a + 1 < L.length) : twoB (L.drop a) = false := by
  rw [Bool.eq_false_iff]
  intro h2
  simp only [twoB, List.any_eq_true, beq_iff_eq] at h2
  obtain ⟨x, hx, e⟩ := h2
  have hx2 : x.length = 2 := by
    simp only [twoL, List.mem_cons, List.not_mem_nil, or_false] at hx
    rcases hx with rfl | rfl | rfl | rfl | rfl | rfl | rfl <;> rfl
  rw [e, List.length_take, List.length_drop] at hx2
  omega
theorem ret_i0 {a : Nat} {b : Int} (h : (a : Int) = b) : Ending.returned (.int .i64 b) = .returned (.int .i64 (a : Int)) := by rw [h]
theorem signD_two {s : ByteArray} {a : Nat} (h : twoB ((bytesOf s).drop a) = true) : ((signD (bytesOf s) a : Nat) : Int) = 2 := by rw [signD, if_pos h]; rfl
theorem signD_one {s : ByteArray} {a : Nat} (ha : a < s.size) (h0 : twoB ((bytesOf s).drop a) = false) (h : oneB s[a] = true) : ((signD (bytesOf s) a : Nat) : Int) = 1 := by
  rw [signD, if_neg (by rw [h0]; decide), byte_get ha, if_pos h]; rfl
theorem signD_no {s : ByteArray} {a : Nat} (ha : a < s.size) (h0 : twoB ((bytesOf s).drop a) = false) (h : oneB s[a] = false) : ((signD (bytesOf s) a : Nat) : Int) = 0 := by
  rw [signD, if_neg (by rw [h0]; decide), byte_get ha, if_neg (by rw [h]; decide)]; rfl
set_option maxHeartbeats 4000000 in
theorem signP (s : ByteArray) (a : Nat) (ha : a < s.size) (hs : s.size ≤ maxLen) (w : World) : Calls Tryd.prog 41 #[.string s, .int .i64 (a : Int)] w fun e w' => e = .returned (.int .i64 (signD (bytesOf s) a : Nat)) ∧ w = w' := by
  have hs2 := hs
  unfold maxLen at hs
  by_cases h : a + 1 < s.size
  · have h2 : ((a : Int) + 2) ≤ s.size := by omega

    cases t0 : ((s.extract a (a + 2)).toList == [61, 61])
    rotate_left
    · have H0 : twoB ((bytesOf s).drop a) = true := by rw [twoB_or]; simp [*]
      go_enter Tryd.func41, Tryd.ntmps41
      go_wp2
      go_ret
      exact ⟨ret_i0 (signD_two H0), rfl⟩
    cases t1 : ((s.extract a (a + 2)).toList == [33, 61])
    rotate_left
    · have H0 : twoB ((bytesOf s).drop a) = true := by rw [twoB_or]; simp [*]
      go_enter Tryd.func41, Tryd.ntmps41
      go_wp2
      go_ret
      exact ⟨ret_i0 (signD_two H0), rfl⟩
    cases t2 : ((s.extract a (a + 2)).toList == [60, 61])
    rotate_left
    · have H0 : twoB ((bytesOf s).drop a) = true := by rw [twoB_or]; simp [*]
      go_enter Tryd.func41, Tryd.ntmps41
      go_wp2
      go_ret
      exact ⟨ret_i0 (signD_two H0), rfl⟩
    cases t3 : ((s.extract a (a + 2)).toList == [62, 61])
    rotate_left
    · have H0 : twoB ((bytesOf s).drop a) = true := by rw [twoB_or]; simp [*]
      go_enter Tryd.func41, Tryd.ntmps41
      go_wp2
      go_ret
      exact ⟨ret_i0 (signD_two H0), rfl⟩
    cases t4 : ((s.extract a (a + 2)).toList == [38, 38])
    rotate_left
    · have H0 : twoB ((bytesOf s).drop a) = true := by rw [twoB_or]; simp [*]
      go_enter Tryd.func41, Tryd.ntmps41
      go_wp2
      go_ret
      exact ⟨ret_i0 (signD_two H0), rfl⟩
    cases t5 : ((s.extract a (a + 2)).toList == [124, 124])
    rotate_left
    · have H0 : twoB ((bytesOf s).drop a) = true := by rw [twoB_or]; simp [*]
      go_enter Tryd.func41, Tryd.ntmps41
      go_wp2
      go_ret
      exact ⟨ret_i0 (signD_two H0), rfl⟩
    cases t6 : ((s.extract a (a + 2)).toList == [46, 46])
    rotate_left
    · have H0 : twoB ((bytesOf s).drop a) = true := by rw [twoB_or]; simp [*]
      go_enter Tryd.func41, Tryd.ntmps41
      go_wp2
      go_ret
      exact ⟨ret_i0 (signD_two H0), rfl⟩
    have H0 : twoB ((bytesOf s).drop a) = false := by rw [twoB_or]; simp [*]
    go_enter Tryd.func41, Tryd.ntmps41
    go_wp2
    all_goals first | (exfalso; simp_all; done) | skip
    all_goals go_ret
    all_goals first | exact ⟨ret_i0 (signD_one ha H0 (by rw [oneB_or]; simp [*])), rfl⟩ | exact ⟨ret_i0 (signD_no ha H0 (by rw [oneB_or]; simp [*])), rfl⟩
  · have H0 : twoB ((bytesOf s).drop a) = false := twoB_short h
    have hd : decide (((a : Int) + 1) < s.size) = false := by simp; omega
    go_enter Tryd.func41, Tryd.ntmps41
    go_wp2
    all_goals first | (exfalso; simp_all; done) | skip
    all_goals go_ret
    all_goals first | exact ⟨ret_i0 (signD_one ha H0 (by rw [oneB_or]; simp [*])), rfl⟩ | exact ⟨ret_i0 (signD_no ha H0 (by rw [oneB_or]; simp [*])), rfl⟩
end Go.Proofs.YtihfllkgoolkhaaDoor
