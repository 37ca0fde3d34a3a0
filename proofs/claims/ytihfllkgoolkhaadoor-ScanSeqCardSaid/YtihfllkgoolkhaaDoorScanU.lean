/-
  Layer 1 (scan): the walk of the reference's one, at a letter and at a digit.
-/
import Derived.Test.YtihfllkgoolkhaaDoorScanT
import Derived.Test.YtihfllkgoolkhaaDoorScanG
namespace Go.Proofs.YtihfllkgoolkhaaDoor
open Go.RowKit
set_option linter.unusedSimpArgs false
set_option linter.unusedVariables false

set_option maxHeartbeats 4000000 in
theorem oneRL (s : ByteArray) (k : Nat) (hk : k < s.size) (hs : s.size ≤ 65536) (w : World) (hl : letterB s[k] = true) :
    Calls Tryd.prog 30 #[.string s, .int .i64 (k : Int)] w fun e w' => NextE s (oneD (bytesOf s) k) e ∧ Below w.heap.size w w' := by
  have hs2 : s.size ≤ maxLen := by unfold maxLen; omega
  have hg := byte_get hk
  have HO := Lib.hid (oneD_letter (by rw [hg]; exact hl) (rfl : rowD alnumB (bytesOf s) k = _))
  have hm1 : k < rowD alnumB (bytesOf s) k := by
    have := rowD_ge alnumB (bytesOf s) (k + 1)
    rw [rowD_yes hk (by rw [hg, alnumB, hl]; rfl)]; exact Nat.lt_of_lt_of_le (Nat.lt_succ_self k) this
  have hm2 := rowD_le (p := alnumB) (L := bytesOf s) (k := k) (Nat.le_of_lt hk)
  rw [bytes_len] at hm2
  generalize hm : rowD alnumB (bytesOf s) k = m at *
  clear hg
  go_enter Tryd.func30, Tryd.ntmps30
  go_wp2_with (first
    | (go_at_call 35; refine (letterR _ _).mono ?_; rintro e w' ⟨rfl, rfl⟩)
    | (go_at_call 36; refine (digitR _ _).mono ?_; rintro e w' ⟨rfl, rfl⟩)
    | (go_at_call 16; refine (wordR _ _).mono ?_; rintro e w1 ⟨rfl, hb⟩; have X0 := ((Whl.new w 30 _).alloc _).below' hb; have X1 := (Whl.new1 w _ 30 _).below' hb; have hb0 := Below.trans (below_alloc (below_alloc (Below.refl w.heap.size w) _) _) (hb.mono (by simp; omega)); clear hb; obtain ⟨b0, b1, b2, b3, n0, n1, n2, n3, lr⟩ := tokCells X0; obtain ⟨c0, c1, c2, c3, m0, m1, m2, m3, lc⟩ := tokCells X1; clear X0 X1))
  go_loop [6] (fun i => ∃ j : Nat, k ≤ j ∧ j ≤ s.size ∧ i = .int .i64 j ∧ rowD alnumB (bytesOf s) j = m) (fun i => s.size - (intOf i).toNat)
  case atStart => exact ⟨k, Nat.le_refl _, Nat.le_of_lt hk, rfl, hm⟩
  case round =>
    clear hm
    obtain ⟨j, hkj, hj, rfl, hr⟩ := hrel
    have HR := Lib.hid hr
    clear hr
    by_cases hlt : j < s.size
    · have hg := byte_get hlt
      have HG := Lib.hid hg
      clear hg
      cases h1 : letterB s[j]
      rotate_left
      · have HE := Lib.hid (rowD_yes (p := alnumB) (L := bytesOf s) hlt (by rw [HG.out, alnumB, h1]; rfl))
        go_wp2_with (first
          | (go_at_call 35; refine (letterR _ _).mono ?_; rintro e w' ⟨rfl, rfl⟩)
          | (go_at_call 36; refine (digitR _ _).mono ?_; rintro e w' ⟨rfl, rfl⟩)
          | (go_at_call 16; refine (wordR _ _).mono ?_; rintro e w1 ⟨rfl, hb⟩; have X0 := ((Whl.new w 30 _).alloc _).below' hb; have X1 := (Whl.new1 w _ 30 _).below' hb; have hb0 := Below.trans (below_alloc (below_alloc (Below.refl w.heap.size w) _) _) (hb.mono (by simp; omega)); clear hb; obtain ⟨b0, b1, b2, b3, n0, n1, n2, n3, lr⟩ := tokCells X0; obtain ⟨c0, c1, c2, c3, m0, m1, m2, m3, lc⟩ := tokCells X1; clear X0 X1))
        go_round
        case rel => exact ⟨j + 1, by omega, by omega, by go_num, by rw [← HE.out]; exact HR.out⟩
        case measure => simp [intOf] <;> omega
      cases h2 : digitB s[j]
      rotate_left
      · have HE := Lib.hid (rowD_yes (p := alnumB) (L := bytesOf s) hlt (by rw [HG.out, alnumB, h1, h2]; rfl))
        go_wp2_with (first
          | (go_at_call 35; refine (letterR _ _).mono ?_; rintro e w' ⟨rfl, rfl⟩)
          | (go_at_call 36; refine (digitR _ _).mono ?_; rintro e w' ⟨rfl, rfl⟩)
          | (go_at_call 16; refine (wordR _ _).mono ?_; rintro e w1 ⟨rfl, hb⟩; have X0 := ((Whl.new w 30 _).alloc _).below' hb; have X1 := (Whl.new1 w _ 30 _).below' hb; have hb0 := Below.trans (below_alloc (below_alloc (Below.refl w.heap.size w) _) _) (hb.mono (by simp; omega)); clear hb; obtain ⟨b0, b1, b2, b3, n0, n1, n2, n3, lr⟩ := tokCells X0; obtain ⟨c0, c1, c2, c3, m0, m1, m2, m3, lc⟩ := tokCells X1; clear X0 X1))
        go_round
        case rel => exact ⟨j + 1, by omega, by omega, by go_num, by rw [← HE.out]; exact HR.out⟩
        case measure => simp [intOf] <;> omega
      have HE := Lib.hid (rowD_no (p := alnumB) (L := bytesOf s) hlt (by rw [HG.out, alnumB, h1, h2]; rfl))
      have hjm : j = m := HE.out.symm.trans HR.out
      subst hjm
      clear hkj hj
      have hB := extB s k j
      have hkm : k + (j - k) = j := by omega
      cases hw : wordB (bytesOf (s.extract k j)) <;> rcases Nat.lt_or_ge 16 (j - k) with h16 | h16
      · have hd : decide ((16 : Int) < ((j : Int) - (k : Int))) = true := by simp; omega
        have HX := Lib.hid (show oneD (bytesOf s) k = .err 4 by rw [HO.out, if_pos h16])
        clear hB HO
        go_wp2_with (first
          | (go_at_call 35; refine (letterR _ _).mono ?_; rintro e w' ⟨rfl, rfl⟩)
          | (go_at_call 36; refine (digitR _ _).mono ?_; rintro e w' ⟨rfl, rfl⟩)
          | (go_at_call 16; refine (wordR _ _).mono ?_; rintro e w1 ⟨rfl, hb⟩; have X0 := ((Whl.new w 30 _).alloc _).below' hb; have X1 := (Whl.new1 w _ 30 _).below' hb; have hb0 := Below.trans (below_alloc (below_alloc (Below.refl w.heap.size w) _) _) (hb.mono (by simp; omega)); clear hb; obtain ⟨b0, b1, b2, b3, n0, n1, n2, n3, lr⟩ := tokCells X0; obtain ⟨c0, c1, c2, c3, m0, m1, m2, m3, lc⟩ := tokCells X1; clear X0 X1))
        refine ret_of ?_ rfl
        refine ⟨_, by simp [results, Tryd.results30, go_sem]; rfl, nextE_err HX.out (by decide) (by exact ⟨_, _, _, _, rfl⟩), by repeat (first | exact hb0 | exact Below.refl _ _ | (with_reducible refine Below.alloc ?_ (by simp) _) | (with_reducible refine below_alloc ?_ _) | (with_reducible refine Below.setCell ?_ (by simp) _))⟩
      · have hd : decide ((16 : Int) < ((j : Int) - (k : Int))) = false := by simp; omega
        have HX := Lib.hid (show oneD (bytesOf s) k = .tok ⟨1, k, j - k, 0⟩ by rw [HO.out, if_neg (by omega), ← hB, hw]; rfl)
        clear hB HO
        go_wp2_with (first
          | (go_at_call 35; refine (letterR _ _).mono ?_; rintro e w' ⟨rfl, rfl⟩)
          | (go_at_call 36; refine (digitR _ _).mono ?_; rintro e w' ⟨rfl, rfl⟩)
          | (go_at_call 16; refine (wordR _ _).mono ?_; rintro e w1 ⟨rfl, hb⟩; have X0 := ((Whl.new w 30 _).alloc _).below' hb; have X1 := (Whl.new1 w _ 30 _).below' hb; have hb0 := Below.trans (below_alloc (below_alloc (Below.refl w.heap.size w) _) _) (hb.mono (by simp; omega)); clear hb; obtain ⟨b0, b1, b2, b3, n0, n1, n2, n3, lr⟩ := tokCells X0; obtain ⟨c0, c1, c2, c3, m0, m1, m2, m3, lc⟩ := tokCells X1; clear X0 X1))
        refine ret_of ?_ rfl
        refine ⟨_, by simp [results, Tryd.results30, go_sem, b0, b1, b2, b3, n0, n1, n2, n3, lr, c0, c1, c2, c3], nextE_tok HX.out (tokV_eq s 1 0 hkm), by repeat (first | exact hb0 | exact Below.refl _ _ | (with_reducible refine Below.alloc ?_ (by simp) _) | (with_reducible refine below_alloc ?_ _) | (with_reducible refine Below.setCell ?_ (by simp) _))⟩
      · have hd : decide ((16 : Int) < ((j : Int) - (k : Int))) = true := by simp; omega
        have HX := Lib.hid (show oneD (bytesOf s) k = .err 4 by rw [HO.out, if_pos h16])
        clear hB HO
        go_wp2_with (first
          | (go_at_call 35; refine (letterR _ _).mono ?_; rintro e w' ⟨rfl, rfl⟩)
          | (go_at_call 36; refine (digitR _ _).mono ?_; rintro e w' ⟨rfl, rfl⟩)
          | (go_at_call 16; refine (wordR _ _).mono ?_; rintro e w1 ⟨rfl, hb⟩; have X0 := ((Whl.new w 30 _).alloc _).below' hb; have X1 := (Whl.new1 w _ 30 _).below' hb; have hb0 := Below.trans (below_alloc (below_alloc (Below.refl w.heap.size w) _) _) (hb.mono (by simp; omega)); clear hb; obtain ⟨b0, b1, b2, b3, n0, n1, n2, n3, lr⟩ := tokCells X0; obtain ⟨c0, c1, c2, c3, m0, m1, m2, m3, lc⟩ := tokCells X1; clear X0 X1))
        refine ret_of ?_ rfl
        refine ⟨_, by simp [results, Tryd.results30, go_sem]; rfl, nextE_err HX.out (by decide) (by exact ⟨_, _, _, _, rfl⟩), by repeat (first | exact hb0 | exact Below.refl _ _ | (with_reducible refine Below.alloc ?_ (by simp) _) | (with_reducible refine below_alloc ?_ _) | (with_reducible refine Below.setCell ?_ (by simp) _))⟩
      · have hd : decide ((16 : Int) < ((j : Int) - (k : Int))) = false := by simp; omega
        have HX := Lib.hid (show oneD (bytesOf s) k = .tok ⟨3, k, j - k, 0⟩ by rw [HO.out, if_neg (by omega), ← hB, hw]; rfl)
        clear hB HO
        go_wp2_with (first
          | (go_at_call 35; refine (letterR _ _).mono ?_; rintro e w' ⟨rfl, rfl⟩)
          | (go_at_call 36; refine (digitR _ _).mono ?_; rintro e w' ⟨rfl, rfl⟩)
          | (go_at_call 16; refine (wordR _ _).mono ?_; rintro e w1 ⟨rfl, hb⟩; have X0 := ((Whl.new w 30 _).alloc _).below' hb; have X1 := (Whl.new1 w _ 30 _).below' hb; have hb0 := Below.trans (below_alloc (below_alloc (Below.refl w.heap.size w) _) _) (hb.mono (by simp; omega)); clear hb; obtain ⟨b0, b1, b2, b3, n0, n1, n2, n3, lr⟩ := tokCells X0; obtain ⟨c0, c1, c2, c3, m0, m1, m2, m3, lc⟩ := tokCells X1; clear X0 X1))
        refine ret_of ?_ rfl
        refine ⟨_, by simp [results, Tryd.results30, go_sem, b0, b1, b2, b3, n0, n1, n2, n3, lr, c0, c1, c2, c3], nextE_tok HX.out (tokV_eq s 3 0 hkm), by repeat (first | exact hb0 | exact Below.refl _ _ | (with_reducible refine Below.alloc ?_ (by simp) _) | (with_reducible refine below_alloc ?_ _) | (with_reducible refine Below.setCell ?_ (by simp) _))⟩
    · have hjm : j = m := by rw [← HR.out, rowD_end (by rw [bytes_len]; omega)]
      subst hjm
      clear HR
      clear hkj hj
      have hB := extB s k j
      have hkm : k + (j - k) = j := by omega
      cases hw : wordB (bytesOf (s.extract k j)) <;> rcases Nat.lt_or_ge 16 (j - k) with h16 | h16
      · have hd : decide ((16 : Int) < ((j : Int) - (k : Int))) = true := by simp; omega
        have HX := Lib.hid (show oneD (bytesOf s) k = .err 4 by rw [HO.out, if_pos h16])
        clear hB HO
        go_wp2_with (first
          | (go_at_call 35; refine (letterR _ _).mono ?_; rintro e w' ⟨rfl, rfl⟩)
          | (go_at_call 36; refine (digitR _ _).mono ?_; rintro e w' ⟨rfl, rfl⟩)
          | (go_at_call 16; refine (wordR _ _).mono ?_; rintro e w1 ⟨rfl, hb⟩; have X0 := ((Whl.new w 30 _).alloc _).below' hb; have X1 := (Whl.new1 w _ 30 _).below' hb; have hb0 := Below.trans (below_alloc (below_alloc (Below.refl w.heap.size w) _) _) (hb.mono (by simp; omega)); clear hb; obtain ⟨b0, b1, b2, b3, n0, n1, n2, n3, lr⟩ := tokCells X0; obtain ⟨c0, c1, c2, c3, m0, m1, m2, m3, lc⟩ := tokCells X1; clear X0 X1))
        refine ret_of ?_ rfl
        refine ⟨_, by simp [results, Tryd.results30, go_sem]; rfl, nextE_err HX.out (by decide) (by exact ⟨_, _, _, _, rfl⟩), by repeat (first | exact hb0 | exact Below.refl _ _ | (with_reducible refine Below.alloc ?_ (by simp) _) | (with_reducible refine below_alloc ?_ _) | (with_reducible refine Below.setCell ?_ (by simp) _))⟩
      · have hd : decide ((16 : Int) < ((j : Int) - (k : Int))) = false := by simp; omega
        have HX := Lib.hid (show oneD (bytesOf s) k = .tok ⟨1, k, j - k, 0⟩ by rw [HO.out, if_neg (by omega), ← hB, hw]; rfl)
        clear hB HO
        go_wp2_with (first
          | (go_at_call 35; refine (letterR _ _).mono ?_; rintro e w' ⟨rfl, rfl⟩)
          | (go_at_call 36; refine (digitR _ _).mono ?_; rintro e w' ⟨rfl, rfl⟩)
          | (go_at_call 16; refine (wordR _ _).mono ?_; rintro e w1 ⟨rfl, hb⟩; have X0 := ((Whl.new w 30 _).alloc _).below' hb; have X1 := (Whl.new1 w _ 30 _).below' hb; have hb0 := Below.trans (below_alloc (below_alloc (Below.refl w.heap.size w) _) _) (hb.mono (by simp; omega)); clear hb; obtain ⟨b0, b1, b2, b3, n0, n1, n2, n3, lr⟩ := tokCells X0; obtain ⟨c0, c1, c2, c3, m0, m1, m2, m3, lc⟩ := tokCells X1; clear X0 X1))
        refine ret_of ?_ rfl
        refine ⟨_, by simp [results, Tryd.results30, go_sem, b0, b1, b2, b3, n0, n1, n2, n3, lr, c0, c1, c2, c3], nextE_tok HX.out (tokV_eq s 1 0 hkm), by repeat (first | exact hb0 | exact Below.refl _ _ | (with_reducible refine Below.alloc ?_ (by simp) _) | (with_reducible refine below_alloc ?_ _) | (with_reducible refine Below.setCell ?_ (by simp) _))⟩
      · have hd : decide ((16 : Int) < ((j : Int) - (k : Int))) = true := by simp; omega
        have HX := Lib.hid (show oneD (bytesOf s) k = .err 4 by rw [HO.out, if_pos h16])
        clear hB HO
        go_wp2_with (first
          | (go_at_call 35; refine (letterR _ _).mono ?_; rintro e w' ⟨rfl, rfl⟩)
          | (go_at_call 36; refine (digitR _ _).mono ?_; rintro e w' ⟨rfl, rfl⟩)
          | (go_at_call 16; refine (wordR _ _).mono ?_; rintro e w1 ⟨rfl, hb⟩; have X0 := ((Whl.new w 30 _).alloc _).below' hb; have X1 := (Whl.new1 w _ 30 _).below' hb; have hb0 := Below.trans (below_alloc (below_alloc (Below.refl w.heap.size w) _) _) (hb.mono (by simp; omega)); clear hb; obtain ⟨b0, b1, b2, b3, n0, n1, n2, n3, lr⟩ := tokCells X0; obtain ⟨c0, c1, c2, c3, m0, m1, m2, m3, lc⟩ := tokCells X1; clear X0 X1))
        refine ret_of ?_ rfl
        refine ⟨_, by simp [results, Tryd.results30, go_sem]; rfl, nextE_err HX.out (by decide) (by exact ⟨_, _, _, _, rfl⟩), by repeat (first | exact hb0 | exact Below.refl _ _ | (with_reducible refine Below.alloc ?_ (by simp) _) | (with_reducible refine below_alloc ?_ _) | (with_reducible refine Below.setCell ?_ (by simp) _))⟩
      · have hd : decide ((16 : Int) < ((j : Int) - (k : Int))) = false := by simp; omega
        have HX := Lib.hid (show oneD (bytesOf s) k = .tok ⟨3, k, j - k, 0⟩ by rw [HO.out, if_neg (by omega), ← hB, hw]; rfl)
        clear hB HO
        go_wp2_with (first
          | (go_at_call 35; refine (letterR _ _).mono ?_; rintro e w' ⟨rfl, rfl⟩)
          | (go_at_call 36; refine (digitR _ _).mono ?_; rintro e w' ⟨rfl, rfl⟩)
          | (go_at_call 16; refine (wordR _ _).mono ?_; rintro e w1 ⟨rfl, hb⟩; have X0 := ((Whl.new w 30 _).alloc _).below' hb; have X1 := (Whl.new1 w _ 30 _).below' hb; have hb0 := Below.trans (below_alloc (below_alloc (Below.refl w.heap.size w) _) _) (hb.mono (by simp; omega)); clear hb; obtain ⟨b0, b1, b2, b3, n0, n1, n2, n3, lr⟩ := tokCells X0; obtain ⟨c0, c1, c2, c3, m0, m1, m2, m3, lc⟩ := tokCells X1; clear X0 X1))
        refine ret_of ?_ rfl
        refine ⟨_, by simp [results, Tryd.results30, go_sem, b0, b1, b2, b3, n0, n1, n2, n3, lr, c0, c1, c2, c3], nextE_tok HX.out (tokV_eq s 3 0 hkm), by repeat (first | exact hb0 | exact Below.refl _ _ | (with_reducible refine Below.alloc ?_ (by simp) _) | (with_reducible refine below_alloc ?_ _) | (with_reducible refine Below.setCell ?_ (by simp) _))⟩

end Go.Proofs.YtihfllkgoolkhaaDoor
