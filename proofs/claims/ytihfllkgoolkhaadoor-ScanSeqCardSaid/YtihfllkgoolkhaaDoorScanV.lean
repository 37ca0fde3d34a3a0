/-
  Layer 1 (scan): the walk of the reference's one, at a digit.
-/
import Derived.Test.YtihfllkgoolkhaaDoorScanU
namespace Go.Proofs.YtihfllkgoolkhaaDoor
open Go.RowKit
set_option linter.unusedSimpArgs false
set_option linter.unusedVariables false
theorem ext_get {s : ByteArray} {k m j : Nat} (hm : m ≤ s.size) (h : j < (s.extract k m).size) (h2 : k + j < s.size) : (s.extract k m)[j] = s[k + j] := by
  rw [ByteArray.getElem_extract]
theorem valueNo (s : ByteArray) {k m : Nat} (hk : k < s.size) (hkm : k < m) (hm : m ≤ s.size) (hs : s.size ≤ 65536) (hall : ∀ c ∈ cutL (bytesOf s) k m, digitB c = true)
    (hbad : (1 < m - k ∧ s[k] = 48) ∨ 9223372036854775807 < valN (cutL (bytesOf s) k m)) (w : World) :
    Calls Tryd.prog 37 #[.string (s.extract k m)] w fun e w' => e = .returned (.tuple #[.int .i64 0, .bool false]) ∧ w = w' := by
  have hz := ext_size (s := s) (k := k) hm
  have h0 : (s.extract k m)[0]'(by rw [hz]; omega) = s[k] := ext_get hm (by rw [hz]; omega) (by omega)
  by_cases h : 1 < m - k ∧ s[k] = 48
  · exact valueBad _ (by rw [hz]; exact h.1) (by rw [hz]; omega) (by rw [h0, h.2]; rfl) w
  · have hv : 9223372036854775807 < valN (cutL (bytesOf s) k m) := hbad.resolve_left h
    refine (valueGood (s.extract k m) (by rw [hz]; omega) (fun j hj => hall _ ?_) (fun h1 h2 => ?_) w).mono ?_
    · rw [← extB]; exact Array.mem_toList_iff.2 (Array.getElem_mem hj)
    · rw [h0]; exact byte_ne (n := 48) (by decide) (by simpa using fun e => h ⟨by rw [← hz]; exact h1, e⟩)
    · rintro e w1 ⟨rfl, rfl⟩
      exact ⟨valQ_bad (by rw [extB]; exact hv), rfl⟩
theorem valueYes (s : ByteArray) {k m : Nat} (hk : k < s.size) (hkm : k < m) (hm : m ≤ s.size) (hs : s.size ≤ 65536) (hall : ∀ c ∈ cutL (bytesOf s) k m, digitB c = true)
    (hok : ¬ ((1 < m - k ∧ s[k] = 48) ∨ 9223372036854775807 < valN (cutL (bytesOf s) k m))) (w : World) :
    Calls Tryd.prog 37 #[.string (s.extract k m)] w fun e w' => e = .returned (.tuple #[.int .i64 (valN (cutL (bytesOf s) k m) : Nat), .bool true]) ∧ w = w' := by
  have hz := ext_size (s := s) (k := k) hm
  have h0 : (s.extract k m)[0]'(by rw [hz]; omega) = s[k] := ext_get hm (by rw [hz]; omega) (by omega)
  refine (valueGood (s.extract k m) (by rw [hz]; omega) (fun j hj => hall _ ?_) (fun h1 h2 => ?_) w).mono ?_
  · rw [← extB]; exact Array.mem_toList_iff.2 (Array.getElem_mem hj)
  · rw [h0]; exact byte_ne (n := 48) (by decide) (by simpa using fun e => hok (.inl ⟨by rw [← hz]; exact h1, e⟩))
  · rintro e w1 ⟨rfl, rfl⟩
    exact ⟨(valQ_ok (by rw [extB]; exact fun h => hok (.inr h))).trans (by rw [extB]), rfl⟩

set_option maxHeartbeats 4000000 in
theorem oneRD (s : ByteArray) (k : Nat) (hk : k < s.size) (hs : s.size ≤ 65536) (w : World) (hl : letterB s[k] = false) (hd : digitB s[k] = true) :
    Calls Tryd.prog 30 #[.string s, .int .i64 (k : Int)] w fun e w' => NextE s (oneD (bytesOf s) k) e ∧ Below w.heap.size w w' := by
  have hs2 : s.size ≤ maxLen := by unfold maxLen; omega
  have hg := byte_get hk
  have HO := Lib.hid (oneD_digit (by rw [hg]; exact hl) (by rw [hg]; exact hd) (rfl : rowD digitB (bytesOf s) k = _))
  have hm1 : k < rowD digitB (bytesOf s) k := by
    have := rowD_ge digitB (bytesOf s) (k + 1)
    rw [rowD_yes hk (by rw [hg]; exact hd)]; exact Nat.lt_of_lt_of_le (Nat.lt_succ_self k) this
  have hm2 := rowD_le (p := digitB) (L := bytesOf s) (k := k) (Nat.le_of_lt hk)
  rw [bytes_len] at hm2
  have hal := cutL_all (p := digitB) (L := bytesOf s) (k := k)
  have HAL := Lib.hid hal
  clear hal
  generalize hm : rowD digitB (bytesOf s) k = m at *
  rw [hg] at HO
  clear hg
  go_enter Tryd.func30, Tryd.ntmps30
  go_wp2_with (first
    | (go_at_call 35; refine (letterR _ _).mono ?_; rintro e w' ⟨rfl, rfl⟩)
    | (go_at_call 36; refine (digitR _ _).mono ?_; rintro e w' ⟨rfl, rfl⟩)
    | (go_at_call 16; refine (wordR _ _).mono ?_; rintro e w1 ⟨rfl, hb⟩; have X0 := ((Whl.new w 30 _).alloc _).below' hb; have X1 := (Whl.new1 w _ 30 _).below' hb; have hb0 := Below.trans (below_alloc (below_alloc (Below.refl w.heap.size w) _) _) (hb.mono (by simp; omega)); clear hb; obtain ⟨b0, b1, b2, b3, n0, n1, n2, n3, lr⟩ := tokCells X0; obtain ⟨c0, c1, c2, c3, m0, m1, m2, m3, lc⟩ := tokCells X1; clear X0 X1))
  go_loop [6] (fun i => ∃ j : Nat, k ≤ j ∧ j ≤ s.size ∧ i = .int .i64 j ∧ rowD digitB (bytesOf s) j = m) (fun i => s.size - (intOf i).toNat)
  case atStart => exact ⟨k, Nat.le_refl _, Nat.le_of_lt hk, rfl, hm⟩
  case round =>
    clear hm
    obtain ⟨j, hkj, hj, rfl, hr⟩ := hrel
    have HR := Lib.hid hr
    clear hr
    by_cases hlt : j < s.size
    · have hg := byte_get hlt
      have HG := Lib.hid hg
      clear hg
      cases h2 : digitB s[j]
      rotate_left
      · have HE := Lib.hid (rowD_yes (p := digitB) (L := bytesOf s) hlt (by rw [HG.out, h2]))
        go_wp2_with (first
          | (go_at_call 35; refine (letterR _ _).mono ?_; rintro e w' ⟨rfl, rfl⟩)
          | (go_at_call 36; refine (digitR _ _).mono ?_; rintro e w' ⟨rfl, rfl⟩)
          | (go_at_call 16; refine (wordR _ _).mono ?_; rintro e w1 ⟨rfl, hb⟩; have X0 := ((Whl.new w 30 _).alloc _).below' hb; have X1 := (Whl.new1 w _ 30 _).below' hb; have hb0 := Below.trans (below_alloc (below_alloc (Below.refl w.heap.size w) _) _) (hb.mono (by simp; omega)); clear hb; obtain ⟨b0, b1, b2, b3, n0, n1, n2, n3, lr⟩ := tokCells X0; obtain ⟨c0, c1, c2, c3, m0, m1, m2, m3, lc⟩ := tokCells X1; clear X0 X1))
        go_round
        case rel => exact ⟨j + 1, by omega, by omega, by go_num, by rw [← HE.out]; exact HR.out⟩
        case measure => simp [intOf] <;> omega
      have HE := Lib.hid (rowD_no (p := digitB) (L := bytesOf s) hlt (by rw [HG.out, h2]))
      have hjm : j = m := HE.out.symm.trans HR.out
      subst hjm
      clear hkj hj
      have hkm : k + (j - k) = j := by omega
      by_cases hbad : (1 < j - k ∧ s[k] = 48) ∨ 9223372036854775807 < valN (cutL (bytesOf s) k j)
      · have hV := valueNo s hk hm1 hm2 hs HAL.out hbad
        have HX := Lib.hid (show oneD (bytesOf s) k = .err 11 by rw [HO.out, if_pos hbad])
        clear HO HAL hbad
        go_wp2_with (first
          | (go_at_call 35; refine (letterR _ _).mono ?_; rintro e w' ⟨rfl, rfl⟩)
          | (go_at_call 36; refine (digitR _ _).mono ?_; rintro e w' ⟨rfl, rfl⟩)
          | (go_at_call 16; refine (wordR _ _).mono ?_; rintro e w1 ⟨rfl, hb⟩; have X0 := ((Whl.new w 30 _).alloc _).below' hb; have X1 := (Whl.new1 w _ 30 _).below' hb; have hb0 := Below.trans (below_alloc (below_alloc (Below.refl w.heap.size w) _) _) (hb.mono (by simp; omega)); clear hb; obtain ⟨b0, b1, b2, b3, n0, n1, n2, n3, lr⟩ := tokCells X0; obtain ⟨c0, c1, c2, c3, m0, m1, m2, m3, lc⟩ := tokCells X1; clear X0 X1)
          | (go_at_call 37; refine (hV _).mono ?_; rintro e w' ⟨rfl, rfl⟩))
        refine ret_of ?_ rfl
        refine ⟨_, by simp [results, Tryd.results30, go_sem]; rfl, nextE_err HX.out (by decide) (by exact ⟨_, _, _, _, rfl⟩), by repeat (first | exact hb0 | exact Below.refl _ _ | (with_reducible refine Below.alloc ?_ (by simp) _) | (with_reducible refine below_alloc ?_ _) | (with_reducible refine Below.setCell ?_ (by simp) _))⟩
      · have hV := valueYes s hk hm1 hm2 hs HAL.out hbad
        have HX := Lib.hid (show oneD (bytesOf s) k = .tok ⟨2, k, j - k, (valN (cutL (bytesOf s) k j) : Nat)⟩ by rw [HO.out, if_neg hbad])
        clear HO HAL hbad
        generalize valN (cutL (bytesOf s) k j) = v at *
        go_wp2_with (first
          | (go_at_call 35; refine (letterR _ _).mono ?_; rintro e w' ⟨rfl, rfl⟩)
          | (go_at_call 36; refine (digitR _ _).mono ?_; rintro e w' ⟨rfl, rfl⟩)
          | (go_at_call 16; refine (wordR _ _).mono ?_; rintro e w1 ⟨rfl, hb⟩; have X0 := ((Whl.new w 30 _).alloc _).below' hb; have X1 := (Whl.new1 w _ 30 _).below' hb; have hb0 := Below.trans (below_alloc (below_alloc (Below.refl w.heap.size w) _) _) (hb.mono (by simp; omega)); clear hb; obtain ⟨b0, b1, b2, b3, n0, n1, n2, n3, lr⟩ := tokCells X0; obtain ⟨c0, c1, c2, c3, m0, m1, m2, m3, lc⟩ := tokCells X1; clear X0 X1)
          | (go_at_call 37; refine (hV _).mono ?_; rintro e w' ⟨rfl, rfl⟩))
        refine ret_of ?_ rfl
        refine ⟨_, by simp [results, Tryd.results30, go_sem], nextE_tok HX.out (tokV_eq s 2 (v : Int) hkm), by repeat (first | exact hb0 | exact Below.refl _ _ | (with_reducible refine Below.alloc ?_ (by simp) _) | (with_reducible refine below_alloc ?_ _) | (with_reducible refine Below.setCell ?_ (by simp) _))⟩
    · have hjm : j = m := by rw [← HR.out, rowD_end (by rw [bytes_len]; omega)]
      subst hjm
      clear HR
      clear hkj hj
      have hkm : k + (j - k) = j := by omega
      by_cases hbad : (1 < j - k ∧ s[k] = 48) ∨ 9223372036854775807 < valN (cutL (bytesOf s) k j)
      · have hV := valueNo s hk hm1 hm2 hs HAL.out hbad
        have HX := Lib.hid (show oneD (bytesOf s) k = .err 11 by rw [HO.out, if_pos hbad])
        clear HO HAL hbad
        go_wp2_with (first
          | (go_at_call 35; refine (letterR _ _).mono ?_; rintro e w' ⟨rfl, rfl⟩)
          | (go_at_call 36; refine (digitR _ _).mono ?_; rintro e w' ⟨rfl, rfl⟩)
          | (go_at_call 16; refine (wordR _ _).mono ?_; rintro e w1 ⟨rfl, hb⟩; have X0 := ((Whl.new w 30 _).alloc _).below' hb; have X1 := (Whl.new1 w _ 30 _).below' hb; have hb0 := Below.trans (below_alloc (below_alloc (Below.refl w.heap.size w) _) _) (hb.mono (by simp; omega)); clear hb; obtain ⟨b0, b1, b2, b3, n0, n1, n2, n3, lr⟩ := tokCells X0; obtain ⟨c0, c1, c2, c3, m0, m1, m2, m3, lc⟩ := tokCells X1; clear X0 X1)
          | (go_at_call 37; refine (hV _).mono ?_; rintro e w' ⟨rfl, rfl⟩))
        refine ret_of ?_ rfl
        refine ⟨_, by simp [results, Tryd.results30, go_sem]; rfl, nextE_err HX.out (by decide) (by exact ⟨_, _, _, _, rfl⟩), by repeat (first | exact hb0 | exact Below.refl _ _ | (with_reducible refine Below.alloc ?_ (by simp) _) | (with_reducible refine below_alloc ?_ _) | (with_reducible refine Below.setCell ?_ (by simp) _))⟩
      · have hV := valueYes s hk hm1 hm2 hs HAL.out hbad
        have HX := Lib.hid (show oneD (bytesOf s) k = .tok ⟨2, k, j - k, (valN (cutL (bytesOf s) k j) : Nat)⟩ by rw [HO.out, if_neg hbad])
        clear HO HAL hbad
        generalize valN (cutL (bytesOf s) k j) = v at *
        go_wp2_with (first
          | (go_at_call 35; refine (letterR _ _).mono ?_; rintro e w' ⟨rfl, rfl⟩)
          | (go_at_call 36; refine (digitR _ _).mono ?_; rintro e w' ⟨rfl, rfl⟩)
          | (go_at_call 16; refine (wordR _ _).mono ?_; rintro e w1 ⟨rfl, hb⟩; have X0 := ((Whl.new w 30 _).alloc _).below' hb; have X1 := (Whl.new1 w _ 30 _).below' hb; have hb0 := Below.trans (below_alloc (below_alloc (Below.refl w.heap.size w) _) _) (hb.mono (by simp; omega)); clear hb; obtain ⟨b0, b1, b2, b3, n0, n1, n2, n3, lr⟩ := tokCells X0; obtain ⟨c0, c1, c2, c3, m0, m1, m2, m3, lc⟩ := tokCells X1; clear X0 X1)
          | (go_at_call 37; refine (hV _).mono ?_; rintro e w' ⟨rfl, rfl⟩))
        refine ret_of ?_ rfl
        refine ⟨_, by simp [results, Tryd.results30, go_sem], nextE_tok HX.out (tokV_eq s 2 (v : Int) hkm), by repeat (first | exact hb0 | exact Below.refl _ _ | (with_reducible refine Below.alloc ?_ (by simp) _) | (with_reducible refine below_alloc ?_ _) | (with_reducible refine Below.setCell ?_ (by simp) _))⟩

end Go.Proofs.YtihfllkgoolkhaaDoor
