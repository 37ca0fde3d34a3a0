/-
  Layer 1 (scan): the walks of letter, digit, alnum, row and skip of package scan.
-/
import Derived.Test.YtdddppmfeoebgaaGreatDoorScanA
import Derived.LoopTactic
import Derived.WalkMore
import Derived.Test.YtdddppmfeoebgaaGreatDoorTreeA
namespace Go.Proofs.YtdddppmfeoebgaaGreatDoor
open Go.RowKit
set_option linter.unusedSimpArgs false
set_option linter.unusedVariables false
abbrev bytesOf (s : ByteArray) : List UInt8 := s.data.toList
theorem byte_get {s : ByteArray} {k : Nat} (h : k < s.size) : (bytesOf s).getD k 0 = s[k] := by
  have h2 : k < s.data.toList.length := h
  rw [bytesOf, List.getD_eq_getElem?_getD, List.getElem?_eq_getElem h2]; rfl
theorem ret_i {a b : Nat} (h : a = b) : Ending.returned (.int .i64 (a : Int)) = .returned (.int .i64 (b : Int)) := by rw [h]
theorem bytes_len (s : ByteArray) : (bytesOf s).length = s.size := rfl
theorem letterP (c : UInt8) (w : World) : Calls Tryz.prog 63 #[.int .u8 (c.toNat : Int)] w fun e w' => e = .returned (.bool (letterB c)) ∧ w = w' := by
  have hc := c.toNat_lt
  rcases (by omega : c.toNat < 97 ∨ (97 ≤ c.toNat ∧ c.toNat ≤ 122) ∨ 122 < c.toNat) with h1 | ⟨h1, h2⟩ | h1
  · have e1 : decide ((97 : Int) ≤ (c.toNat : Int)) = false := by simp; omega
    have e0 : letterB c = false := by simp [letterB]; omega
    rw [e0]
    go_enter Tryz.func63, Tryz.ntmps63
    go_wp2
    go_ret
    exact ⟨rfl, rfl⟩
  · have e1 : decide ((97 : Int) ≤ (c.toNat : Int)) = true := by simp; omega
    have e2 : decide ((c.toNat : Int) ≤ 122) = true := by simp; omega
    have e0 : letterB c = true := by simp [letterB]; omega
    rw [e0]
    go_enter Tryz.func63, Tryz.ntmps63
    go_wp2
    go_ret
    exact ⟨rfl, rfl⟩
  · have e1 : decide ((97 : Int) ≤ (c.toNat : Int)) = true := by simp; omega
    have e2 : decide ((c.toNat : Int) ≤ 122) = false := by simp; omega
    have e0 : letterB c = false := by simp [letterB]; omega
    rw [e0]
    go_enter Tryz.func63, Tryz.ntmps63
    go_wp2
    go_ret
    exact ⟨rfl, rfl⟩
theorem digitP (c : UInt8) (w : World) : Calls Tryz.prog 92 #[.int .u8 (c.toNat : Int)] w fun e w' => e = .returned (.bool (digitB c)) ∧ w = w' := by
  have hc := c.toNat_lt
  rcases (by omega : c.toNat < 48 ∨ (48 ≤ c.toNat ∧ c.toNat ≤ 57) ∨ 57 < c.toNat) with h1 | ⟨h1, h2⟩ | h1
  · have e1 : decide ((48 : Int) ≤ (c.toNat : Int)) = false := by simp; omega
    have e0 : digitB c = false := by simp [digitB]; omega
    rw [e0]
    go_enter Tryz.func92, Tryz.ntmps92
    go_wp2
    go_ret
    exact ⟨rfl, rfl⟩
  · have e1 : decide ((48 : Int) ≤ (c.toNat : Int)) = true := by simp; omega
    have e2 : decide ((c.toNat : Int) ≤ 57) = true := by simp; omega
    have e0 : digitB c = true := by simp [digitB]; omega
    rw [e0]
    go_enter Tryz.func92, Tryz.ntmps92
    go_wp2
    go_ret
    exact ⟨rfl, rfl⟩
  · have e1 : decide ((48 : Int) ≤ (c.toNat : Int)) = true := by simp; omega
    have e2 : decide ((c.toNat : Int) ≤ 57) = false := by simp; omega
    have e0 : digitB c = false := by simp [digitB]; omega
    rw [e0]
    go_enter Tryz.func92, Tryz.ntmps92
    go_wp2
    go_ret
    exact ⟨rfl, rfl⟩
theorem alnumP (c : UInt8) (w : World) : Calls Tryz.prog 65 #[.int .u8 (c.toNat : Int)] w fun e w' => e = .returned (.bool (alnumB c)) ∧ w = w' := by
  cases hl : letterB c
  · have e0 : alnumB c = digitB c := by rw [alnumB, hl]; rfl
    rw [e0]
    go_enter Tryz.func65, Tryz.ntmps65
    go_wp2_with (first
      | (go_at_call 63; refine (letterP _ _).mono ?_; rintro e w' ⟨rfl, rfl⟩)
      | (go_at_call 92; refine (digitP _ _).mono ?_; rintro e w' ⟨rfl, rfl⟩))
    go_ret
    exact ⟨rfl, rfl⟩
  · have e0 : alnumB c = true := by rw [alnumB, hl]; rfl
    rw [e0]
    go_enter Tryz.func65, Tryz.ntmps65
    go_wp2_with (go_at_call 63; refine (letterP _ _).mono ?_; rintro e w' ⟨rfl, rfl⟩)
    go_ret
    exact ⟨rfl, rfl⟩
set_option maxHeartbeats 400000 in
theorem row_alnumB (s : ByteArray) (a : Nat) (ha : a ≤ s.size) (hs : s.size ≤ maxLen) (w : World) : Calls Tryz.prog 64 #[.string s, .int .i64 (a : Int), .func (.func 65) #[] #[]] w fun e w' => e = .returned (.int .i64 (rowD alnumB (bytesOf s) a : Nat)) ∧ w = w' := by
  unfold maxLen at hs
  go_enter Tryz.func64, Tryz.ntmps64
  go_wp2
  go_loop [1] (fun i => ∃ k : Nat, k ≤ s.size ∧ i = .int .i64 k ∧ rowD alnumB (bytesOf s) k = rowD alnumB (bytesOf s) a) (fun i => s.size - (intOf i).toNat)
  case atStart => exact ⟨a, ha, rfl, rfl⟩
  case round =>
    obtain ⟨k, hk, rfl, hr⟩ := hrel
    have HR := Lib.hid hr
    clear hr
    by_cases hlt : k < s.size
    · cases hp : alnumB s[k]
      · have HE := Lib.hid (rowD_no (p := alnumB) (L := bytesOf s) hlt (by rw [byte_get hlt]; exact hp))
        go_wp2_with (go_at_call 65; refine (alnumP _ _).mono ?_; rintro e w' ⟨rfl, rfl⟩)
        go_ret
        exact ⟨ret_i (HE.out.symm.trans HR.out), rfl⟩
      · have HE := Lib.hid (rowD_yes (p := alnumB) (L := bytesOf s) hlt (by rw [byte_get hlt]; exact hp))
        go_wp2_with (go_at_call 65; refine (alnumP _ _).mono ?_; rintro e w' ⟨rfl, rfl⟩)
        go_round
        case rel => exact ⟨k + 1, by omega, by go_num, by rw [← HE.out]; exact HR.out⟩
        case measure => simp [intOf] <;> omega
    · obtain rfl : k = s.size := by omega
      have HE := Lib.hid (rowD_end (p := alnumB) (L := bytesOf s) (k := s.size) (Nat.le_refl _))
      go_wp2
      go_ret
      exact ⟨ret_i (HE.out.symm.trans HR.out), rfl⟩
set_option maxHeartbeats 400000 in
theorem row_digitB (s : ByteArray) (a : Nat) (ha : a ≤ s.size) (hs : s.size ≤ maxLen) (w : World) : Calls Tryz.prog 64 #[.string s, .int .i64 (a : Int), .func (.func 92) #[] #[]] w fun e w' => e = .returned (.int .i64 (rowD digitB (bytesOf s) a : Nat)) ∧ w = w' := by
  unfold maxLen at hs
  go_enter Tryz.func64, Tryz.ntmps64
  go_wp2
  go_loop [1] (fun i => ∃ k : Nat, k ≤ s.size ∧ i = .int .i64 k ∧ rowD digitB (bytesOf s) k = rowD digitB (bytesOf s) a) (fun i => s.size - (intOf i).toNat)
  case atStart => exact ⟨a, ha, rfl, rfl⟩
  case round =>
    obtain ⟨k, hk, rfl, hr⟩ := hrel
    have HR := Lib.hid hr
    clear hr
    by_cases hlt : k < s.size
    · cases hp : digitB s[k]
      · have HE := Lib.hid (rowD_no (p := digitB) (L := bytesOf s) hlt (by rw [byte_get hlt]; exact hp))
        go_wp2_with (go_at_call 92; refine (digitP _ _).mono ?_; rintro e w' ⟨rfl, rfl⟩)
        go_ret
        exact ⟨ret_i (HE.out.symm.trans HR.out), rfl⟩
      · have HE := Lib.hid (rowD_yes (p := digitB) (L := bytesOf s) hlt (by rw [byte_get hlt]; exact hp))
        go_wp2_with (go_at_call 92; refine (digitP _ _).mono ?_; rintro e w' ⟨rfl, rfl⟩)
        go_round
        case rel => exact ⟨k + 1, by omega, by go_num, by rw [← HE.out]; exact HR.out⟩
        case measure => simp [intOf] <;> omega
    · obtain rfl : k = s.size := by omega
      have HE := Lib.hid (rowD_end (p := digitB) (L := bytesOf s) (k := s.size) (Nat.le_refl _))
      go_wp2
      go_ret
      exact ⟨ret_i (HE.out.symm.trans HR.out), rfl⟩
end Go.Proofs.YtdddppmfeoebgaaGreatDoor

/-
  Layer 1 (scan): the walk of skip of package scan.
-/
namespace Go.Proofs.YtdddppmfeoebgaaGreatDoor
open Go.RowKit
set_option linter.unusedSimpArgs false
set_option linter.unusedVariables false
theorem byte_ne {c : UInt8} {n : Nat} (hn : n < 256) (h : (c == UInt8.ofNat n) = false) : ((c.toNat : Int) == (n : Int)) = false := by
  simp only [beq_eq_false_iff_ne, ne_eq] at h ⊢
  intro e
  apply h
  apply UInt8.toNat_inj.1
  rw [UInt8.toNat_ofNat', Nat.mod_eq_of_lt hn]; omega
end Go.Proofs.YtdddppmfeoebgaaGreatDoor

/-
  Layer 1 (scan): the walks of Word and sign of package scan.
-/
namespace Go.Proofs.YtdddppmfeoebgaaGreatDoor
open Go.RowKit
set_option linter.unusedSimpArgs false
set_option linter.unusedVariables false
theorem ret_b {a b : Bool} (h : a = b) : Ending.returned (.bool a) = .returned (.bool b) := by rw [h]
theorem wordB_or (t : List UInt8) : wordB t = (t == [119, 105, 100, 101, 110] || t == [102, 110] || t == [108, 101, 116] || t == [102, 111, 114] || t == [105, 110] || t == [105, 102] || t == [101, 108, 115, 101] || t == [115, 119, 105, 116, 99, 104] || t == [99, 97, 115, 101] || t == [98, 114, 101, 97, 107] || t == [114, 101, 116, 117, 114, 110]) := by
  simp only [wordB, wordsL, List.any_cons, List.any_nil, Bool.or_false, Bool.or_assoc]
  simp only [BEq.comm]
theorem wordP (s : ByteArray) (w : World) : Calls Tryz.prog 66 #[.string s] w fun e w' => e = .returned (.bool (wordB (bytesOf s))) ∧ w = w' := by
  rw [show bytesOf s = s.toList from (ByteArray.toList_eq s).symm, wordB_or]
  go_enter Tryz.func66, Tryz.ntmps66
  go_wp2
  all_goals first | (exfalso; simp_all; done) | skip
  all_goals go_ret
  all_goals exact ⟨ret_b (by simp [*]), rfl⟩
theorem cut_ext (s : ByteArray) (a b : Nat) : (s.extract a b).data.toList = ((bytesOf s).drop a).take (b - a) := by
  rw [bytesOf, ByteArray.data_extract, Array.toList_extract, List.extract_eq_take_drop]
theorem twoB_or (s : ByteArray) (a : Nat) : twoB ((bytesOf s).drop a) = ((s.extract a (a + 2)).toList == [61, 61] || (s.extract a (a + 2)).toList == [33, 61] || (s.extract a (a + 2)).toList == [60, 61] || (s.extract a (a + 2)).toList == [62, 61] || (s.extract a (a + 2)).toList == [38, 38] || (s.extract a (a + 2)).toList == [124, 124] || (s.extract a (a + 2)).toList == [46, 46]) := by
  have e : (s.extract a (a + 2)).toList = ((bytesOf s).drop a).take 2 := by
    rw [ByteArray.toList_eq, cut_ext, show a + 2 - a = 2 by omega]
  rw [e]
  simp only [twoB, twoL, List.any_cons, List.any_nil, Bool.or_false, Bool.or_assoc]
  simp only [BEq.comm]
theorem byte_eq (c : UInt8) (n : Nat) (hn : n < 256) : ((c.toNat : Int) == (n : Int)) = (UInt8.ofNat n == c) := by
  rw [Bool.eq_iff_iff, beq_iff_eq, beq_iff_eq]
  constructor
  · intro h
    apply UInt8.toNat_inj.1
    rw [UInt8.toNat_ofNat', Nat.mod_eq_of_lt hn]; omega
  · intro h
    rw [← h, UInt8.toNat_ofNat', Nat.mod_eq_of_lt hn]
theorem oneB_or (c : UInt8) : oneB c = ((c.toNat : Int) == 40 || (c.toNat : Int) == 41 || (c.toNat : Int) == 123 || (c.toNat : Int) == 125 || (c.toNat : Int) == 91 || (c.toNat : Int) == 93 || (c.toNat : Int) == 44 || (c.toNat : Int) == 59 || (c.toNat : Int) == 58 || (c.toNat : Int) == 63 || (c.toNat : Int) == 61 || (c.toNat : Int) == 60 || (c.toNat : Int) == 62 || (c.toNat : Int) == 43 || (c.toNat : Int) == 45 || (c.toNat : Int) == 42 || (c.toNat : Int) == 47 || (c.toNat : Int) == 37 || (c.toNat : Int) == 33) := by
  rw [show ((c.toNat : Int) == 40) = (40 == c) from byte_eq c 40 (by decide)]
  rw [show ((c.toNat : Int) == 41) = (41 == c) from byte_eq c 41 (by decide)]
  rw [show ((c.toNat : Int) == 123) = (123 == c) from byte_eq c 123 (by decide)]
  rw [show ((c.toNat : Int) == 125) = (125 == c) from byte_eq c 125 (by decide)]
  rw [show ((c.toNat : Int) == 91) = (91 == c) from byte_eq c 91 (by decide)]
  rw [show ((c.toNat : Int) == 93) = (93 == c) from byte_eq c 93 (by decide)]
  rw [show ((c.toNat : Int) == 44) = (44 == c) from byte_eq c 44 (by decide)]
  rw [show ((c.toNat : Int) == 59) = (59 == c) from byte_eq c 59 (by decide)]
  rw [show ((c.toNat : Int) == 58) = (58 == c) from byte_eq c 58 (by decide)]
  rw [show ((c.toNat : Int) == 63) = (63 == c) from byte_eq c 63 (by decide)]
  rw [show ((c.toNat : Int) == 61) = (61 == c) from byte_eq c 61 (by decide)]
  rw [show ((c.toNat : Int) == 60) = (60 == c) from byte_eq c 60 (by decide)]
  rw [show ((c.toNat : Int) == 62) = (62 == c) from byte_eq c 62 (by decide)]
  rw [show ((c.toNat : Int) == 43) = (43 == c) from byte_eq c 43 (by decide)]
  rw [show ((c.toNat : Int) == 45) = (45 == c) from byte_eq c 45 (by decide)]
  rw [show ((c.toNat : Int) == 42) = (42 == c) from byte_eq c 42 (by decide)]
  rw [show ((c.toNat : Int) == 47) = (47 == c) from byte_eq c 47 (by decide)]
  rw [show ((c.toNat : Int) == 37) = (37 == c) from byte_eq c 37 (by decide)]
  rw [show ((c.toNat : Int) == 33) = (33 == c) from byte_eq c 33 (by decide)]
  simp only [oneB, oneL, List.any_cons, List.any_nil, Bool.or_false, Bool.or_assoc]
theorem twoB_short {L : List UInt8} {a : Nat} (h : ¬ a + 1 < L.length) : twoB (L.drop a) = false := by
  rw [Bool.eq_false_iff]
  intro h2
  simp only [twoB, List.any_eq_true, beq_iff_eq] at h2
  obtain ⟨x, hx, e⟩ := h2
  have hx2 : x.length = 2 := by
    simp only [twoL, List.mem_cons, List.not_mem_nil, or_false] at hx
    rcases hx with rfl | rfl | rfl | rfl | rfl | rfl | rfl <;> rfl
  rw [e, List.length_take, List.length_drop] at hx2
  omega
theorem ret_i0 {a : Nat} {b : Int} (h : (a : Int) = b) : Ending.returned (.int .i64 b) = .returned (.int .i64 (a : Int)) := by rw [h]
theorem signD_two {s : ByteArray} {a : Nat} (h : twoB ((bytesOf s).drop a) = true) : ((signD (bytesOf s) a : Nat) : Int) = 2 := by rw [signD, if_pos h]; rfl
theorem signD_one {s : ByteArray} {a : Nat} (ha : a < s.size) (h0 : twoB ((bytesOf s).drop a) = false) (h : oneB s[a] = true) : ((signD (bytesOf s) a : Nat) : Int) = 1 := by
  rw [signD, if_neg (by rw [h0]; decide), byte_get ha, if_pos h]; rfl
theorem signD_no {s : ByteArray} {a : Nat} (ha : a < s.size) (h0 : twoB ((bytesOf s).drop a) = false) (h : oneB s[a] = false) : ((signD (bytesOf s) a : Nat) : Int) = 0 := by
  rw [signD, if_neg (by rw [h0]; decide), byte_get ha, if_neg (by rw [h]; decide)]; rfl
end Go.Proofs.YtdddppmfeoebgaaGreatDoor

/-
  Layer 1 (scan): the walks of Name and next of package scan.
-/
namespace Go.Proofs.YtdddppmfeoebgaaGreatDoor
open Go.RowKit
set_option linter.unusedSimpArgs false
set_option linter.unusedVariables false
set_option maxHeartbeats 2000000 in
theorem nameP (s : ByteArray) (hs : s.size ≤ maxLen) (w : World) : Calls Tryz.prog 40 #[.string s] w fun e w' => e = .returned (.bool (nameB (bytesOf s))) ∧ w = w' := by
  have hs2 := hs
  unfold maxLen at hs
  by_cases h0 : s.size = 0
  · have ht : (s.toList == []) = true := by
      rw [ByteArray.toList_eq, beq_iff_eq]; exact List.length_eq_zero_iff.1 h0
    have e0 : nameB (bytesOf s) = false := by simp [nameB, bytes_len, h0]
    rw [e0]
    go_enter Tryz.func40, Tryz.ntmps40
    go_wp2
    go_ret
    exact ⟨rfl, rfl⟩
  have ht : (s.toList == []) = false := by
    rw [ByteArray.toList_eq, beq_eq_false_iff_ne]; intro e; exact h0 (List.length_eq_zero_iff.2 e)
  have hp : 0 < s.size := by omega
  have hg := byte_get hp
  have hR := row_alnumB s 0 (Nat.zero_le _) hs2
  cases hl : letterB s[0]
  · have e0 : nameB (bytesOf s) = false := by rw [nameB, hg, hl]; simp
    rw [e0]
    go_enter Tryz.func40, Tryz.ntmps40
    go_wp2_with (go_at_call 63; refine (letterP _ _).mono ?_; rintro e w' ⟨rfl, rfl⟩)
    go_ret
    exact ⟨rfl, rfl⟩
  by_cases h16 : 16 < s.size
  · have e0 : nameB (bytesOf s) = false := by rw [nameB, bytes_len, show decide (s.size ≤ 16) = false by simp; omega]; simp
    have hd : decide ((16 : Int) < s.size) = true := by simp; omega
    rw [e0]
    go_enter Tryz.func40, Tryz.ntmps40
    go_wp2_with (go_at_call 63; refine (letterP _ _).mono ?_; rintro e w' ⟨rfl, rfl⟩)
    go_ret
    exact ⟨rfl, rfl⟩
  have hd : decide ((16 : Int) < s.size) = false := by simp; omega
  have e1 : nameB (bytesOf s) = ((((rowD alnumB (bytesOf s) 0 : Nat) : Int) == (s.size : Int)) && !wordB (bytesOf s)) := by
    rw [nameB, hg, hl, bytes_len, show decide (s.size ≤ 16) = true by simp; omega, show (s.size == 0) = false by simpa using h0]
    rw [show (((rowD alnumB (bytesOf s) 0 : Nat) : Int) == (s.size : Int)) = (rowD alnumB (bytesOf s) 0 == s.size) from by rw [Bool.eq_iff_iff, beq_iff_eq, beq_iff_eq]; omega]
    simp
  rw [e1]
  generalize rowD alnumB (bytesOf s) 0 = m at *
  cases hm : ((m : Int) == (s.size : Int))
  · go_enter Tryz.func40, Tryz.ntmps40
    go_wp2_with (first
      | (go_at_call 63; refine (letterP _ _).mono ?_; rintro e w' ⟨rfl, rfl⟩)
      | (go_at_call 64; refine (hR _).mono ?_; rintro e w' ⟨rfl, rfl⟩))
    go_ret
    exact ⟨rfl, rfl⟩
  · cases hw : wordB (bytesOf s)
    all_goals
      go_enter Tryz.func40, Tryz.ntmps40
      go_wp2_with (first
        | (go_at_call 63; refine (letterP _ _).mono ?_; rintro e w' ⟨rfl, rfl⟩)
        | (go_at_call 64; refine (hR _).mono ?_; rintro e w' ⟨rfl, rfl⟩)
        | (go_at_call 66; refine (wordP _ _).mono ?_; rintro e w' ⟨rfl, rfl⟩))
      go_ret
      exact ⟨rfl, rfl⟩
end Go.Proofs.YtdddppmfeoebgaaGreatDoor
