/-
  Layer 1 (scan): the walk of next of package scan.
-/
import Derived.Test.YtihfllkgoolkhaaDoorScanF
namespace Go.Proofs.YtihfllkgoolkhaaDoor
open Go.RowKit
set_option linter.unusedSimpArgs false
set_option linter.unusedVariables false
theorem oneD_letter {L : List UInt8} {k m : Nat} (h : letterB (L.getD k 0) = true) (hm : rowD alnumB L k = m) :
    oneD L k = if 16 < m - k then .err 4 else .tok ⟨if wordB (cutL L k m) then 3 else 1, k, m - k, 0⟩ := by
  subst hm; rw [oneD, if_pos h]
theorem oneD_digit {L : List UInt8} {k m : Nat} (h0 : letterB (L.getD k 0) = false) (h : digitB (L.getD k 0) = true) (hm : rowD digitB L k = m) :
    oneD L k = if (1 < m - k ∧ L.getD k 0 = 48) ∨ 9223372036854775807 < valN (cutL L k m) then .err 11 else .tok ⟨2, k, m - k, valN (cutL L k m)⟩ := by
  subst hm; rw [oneD, if_neg (by rw [h0]; decide), if_pos h]
theorem oneD_sign {L : List UInt8} {k : Nat} (h0 : letterB (L.getD k 0) = false) (h : digitB (L.getD k 0) = false) :
    oneD L k = if signD L k = 0 then .err 10 else .tok ⟨4, k, signD L k, 0⟩ := by
  rw [oneD, if_neg (by rw [h0]; decide), if_neg (by rw [h]; decide)]
theorem extB (s : ByteArray) (k m : Nat) : bytesOf (s.extract k m) = cutL (bytesOf s) k m := cut_ext s k m
theorem tokCells {w : World} {g : Nat} {t : TypeId} {a b c d : Value} (h : Whl w g t #[a, b, c, d]) :
    w.cell? ⟨g, 0, none⟩ = some a ∧ w.cell? ⟨g, 1, none⟩ = some b ∧ w.cell? ⟨g, 2, none⟩ = some c ∧ w.cell? ⟨g, 3, none⟩ = some d ∧ w.frozen? ⟨g, 0, none⟩ = false ∧ w.frozen? ⟨g, 1, none⟩ = false ∧ w.frozen? ⟨g, 2, none⟩ = false ∧ w.frozen? ⟨g, 3, none⟩ = false ∧ g < w.heap.size :=
  ⟨h.cell 0, h.cell 1, h.cell 2, h.cell 3, h.frozen 0, h.frozen 1, h.frozen 2, h.frozen 3, h.lt⟩
theorem nextE_tok {s : ByteArray} {k : Nat} {t : TokD} {v : Value} (h : oneD (bytesOf s) k = .tok t) (hv : v = tokV s t) : NextE s (oneD (bytesOf s) k) (.returned (.tuple #[v, .int .i64 0])) := by
  rw [h, hv]; exact rfl
theorem nextE_err {s : ByteArray} {k : Nat} {x : Int} {v : Value} (h : oneD (bytesOf s) k = .err x) (hx : x ≠ 0) (hv : ∃ (a b : Int) (c : ByteArray) (d : Int), v = .agg #[.int .i64 a, .int .i64 b, .string c, .int .i64 d]) : NextE s (oneD (bytesOf s) k) (.returned (.tuple #[v, .int .i64 x])) := by
  obtain ⟨a, b, c, d, rfl⟩ := hv
  rw [h]; exact ⟨hx, a, b, c, d, rfl⟩
theorem tokV_eq (s : ByteArray) (c : Int) {k m n : Nat} (x : Int) (h : k + n = m) : (Value.agg #[.int .i64 c, .int .i64 (k : Int), .string (s.extract k m), .int .i64 x]) = tokV s ⟨c, k, n, x⟩ := by
  subst h; rfl

set_option maxHeartbeats 2000000 in
theorem nextL (s : ByteArray) (g : Nat) (k : Nat) (hk : k < s.size) (hs : s.size ≤ 65536) (w : World)
    (hr : w.cell? ⟨g, 0, none⟩ = some (.string s)) (lg : g < w.heap.size) (hl : letterB s[k] = true) :
    Calls Tryd.prog 33 #[.pointer (some ⟨g, 0, none⟩), .int .i64 (k : Int)] w fun e w' => NextE s (oneD (bytesOf s) k) e ∧ Below w.heap.size w w' := by
  have hs2 : s.size ≤ maxLen := by unfold maxLen; omega
  have hg := byte_get hk
  have hL := row_alnumB s k (Nat.le_of_lt hk) hs2
  have hm1 := rowD_ge alnumB (bytesOf s) k
  have hm2 := rowD_le (p := alnumB) (L := bytesOf s) (k := k) (Nat.le_of_lt hk)
  rw [bytes_len] at hm2
  have HO := Lib.hid (oneD_letter (by rw [hg]; exact hl) (rfl : rowD alnumB (bytesOf s) k = _))
  generalize rowD alnumB (bytesOf s) k = m at *
  have hB := extB s k m
  have hkm : k + (m - k) = m := by omega
  cases hw : wordB (bytesOf (s.extract k m)) <;> rcases Nat.lt_or_ge 16 (m - k) with h16 | h16
  · have hd : decide ((16 : Int) < ((m - k : Nat) : Int)) = true := by simp; omega
    have HX := Lib.hid (show oneD (bytesOf s) k = .err 4 by rw [HO.out, if_pos h16])
    clear hB
    go_enter Tryd.func33, Tryd.ntmps33
    go_wp2_with (first
      | (go_at_call 25; refine (letterP _ _).mono ?_; rintro e w' ⟨rfl, rfl⟩)
      | (go_at_call 26; refine (hL _).mono ?_; rintro e w' ⟨rfl, rfl⟩)
      | (go_at_call 15; refine (wordP _ _).mono ?_; rintro e w' ⟨rfl, rfl⟩))
    refine ret_of ?_ rfl
    refine ⟨_, by simp [results, Tryd.results33, go_sem]; rfl, nextE_err HX.out (by decide) (by exact ⟨_, _, _, _, rfl⟩), by repeat (first | exact Below.refl _ _ | (with_reducible refine Below.alloc ?_ (by simp) _) | (with_reducible refine below_alloc ?_ _) | (with_reducible refine Below.setCell ?_ (by simp) _))⟩
  · have hd : decide ((16 : Int) < ((m - k : Nat) : Int)) = false := by simp; omega
    have HX := Lib.hid (show oneD (bytesOf s) k = .tok ⟨1, k, m - k, 0⟩ by rw [HO.out, if_neg (by omega), ← hB, hw]; rfl)
    clear hB
    go_enter Tryd.func33, Tryd.ntmps33
    go_wp2_with (first
      | (go_at_call 25; refine (letterP _ _).mono ?_; rintro e w' ⟨rfl, rfl⟩)
      | (go_at_call 26; refine (hL _).mono ?_; rintro e w' ⟨rfl, rfl⟩)
      | (go_at_call 15; refine (wordP _ _).mono ?_; rintro e w' ⟨rfl, rfl⟩))
    refine ret_of ?_ rfl
    refine ⟨_, by simp [results, Tryd.results33, go_sem], nextE_tok HX.out (tokV_eq s 1 0 hkm), by repeat (first | exact Below.refl _ _ | (with_reducible refine Below.alloc ?_ (by simp) _) | (with_reducible refine below_alloc ?_ _) | (with_reducible refine Below.setCell ?_ (by simp) _))⟩
  · have hd : decide ((16 : Int) < ((m - k : Nat) : Int)) = true := by simp; omega
    have HX := Lib.hid (show oneD (bytesOf s) k = .err 4 by rw [HO.out, if_pos h16])
    clear hB
    go_enter Tryd.func33, Tryd.ntmps33
    go_wp2_with (first
      | (go_at_call 25; refine (letterP _ _).mono ?_; rintro e w' ⟨rfl, rfl⟩)
      | (go_at_call 26; refine (hL _).mono ?_; rintro e w' ⟨rfl, rfl⟩)
      | (go_at_call 15; refine (wordP _ _).mono ?_; rintro e w' ⟨rfl, rfl⟩))
    refine ret_of ?_ rfl
    refine ⟨_, by simp [results, Tryd.results33, go_sem]; rfl, nextE_err HX.out (by decide) (by exact ⟨_, _, _, _, rfl⟩), by repeat (first | exact Below.refl _ _ | (with_reducible refine Below.alloc ?_ (by simp) _) | (with_reducible refine below_alloc ?_ _) | (with_reducible refine Below.setCell ?_ (by simp) _))⟩
  · have hd : decide ((16 : Int) < ((m - k : Nat) : Int)) = false := by simp; omega
    have HX := Lib.hid (show oneD (bytesOf s) k = .tok ⟨3, k, m - k, 0⟩ by rw [HO.out, if_neg (by omega), ← hB, hw]; rfl)
    clear hB
    go_enter Tryd.func33, Tryd.ntmps33
    go_wp2_with (first
      | (go_at_call 25; refine (letterP _ _).mono ?_; rintro e w' ⟨rfl, rfl⟩)
      | (go_at_call 26; refine (hL _).mono ?_; rintro e w' ⟨rfl, rfl⟩)
      | (go_at_call 15; refine (wordP _ _).mono ?_; rintro e w' ⟨rfl, rfl⟩))
    refine ret_of ?_ rfl
    refine ⟨_, by simp [results, Tryd.results33, go_sem], nextE_tok HX.out (tokV_eq s 3 0 hkm), by repeat (first | exact Below.refl _ _ | (with_reducible refine Below.alloc ?_ (by simp) _) | (with_reducible refine below_alloc ?_ _) | (with_reducible refine Below.setCell ?_ (by simp) _))⟩
set_option maxHeartbeats 2000000 in
theorem nextS (s : ByteArray) (g : Nat) (k : Nat) (hk : k < s.size) (hs : s.size ≤ 65536) (w : World)
    (hr : w.cell? ⟨g, 0, none⟩ = some (.string s)) (lg : g < w.heap.size) (hl : letterB s[k] = false) (hd : digitB s[k] = false) :
    Calls Tryd.prog 33 #[.pointer (some ⟨g, 0, none⟩), .int .i64 (k : Int)] w fun e w' => NextE s (oneD (bytesOf s) k) e ∧ Below w.heap.size w w' := by
  have hs2 : s.size ≤ maxLen := by unfold maxLen; omega
  have hg := byte_get hk
  have HO := Lib.hid (oneD_sign (by rw [hg]; exact hl) (by rw [hg]; exact hd) : oneD (bytesOf s) k = _)
  have hS := signP s k hk hs2
  have hf := signD_fits (L := bytesOf s) (k := k) hk
  rw [bytes_len] at hf
  generalize signD (bytesOf s) k = m at *
  by_cases h0 : m = 0
  · subst h0
    have HX := Lib.hid (show oneD (bytesOf s) k = .err 10 by rw [HO.out, if_pos rfl])
    go_enter Tryd.func33, Tryd.ntmps33
    go_wp2_with (first
      | (go_at_call 25; refine (letterP _ _).mono ?_; rintro e w' ⟨rfl, rfl⟩)
      | (go_at_call 34; refine (digitP _ _).mono ?_; rintro e w' ⟨rfl, rfl⟩)
      | (go_at_call 41; refine (hS _).mono ?_; rintro e w' ⟨rfl, rfl⟩))
    refine ret_of ?_ rfl
    refine ⟨_, by simp [results, Tryd.results33, go_sem]; rfl, nextE_err HX.out (by decide) (by exact ⟨_, _, _, _, rfl⟩), by repeat (first | exact Below.refl _ _ | (with_reducible refine Below.alloc ?_ (by simp) _) | (with_reducible refine below_alloc ?_ _) | (with_reducible refine Below.setCell ?_ (by simp) _))⟩
  · have u1 : ((m : Int) == 0) = false := by simp; omega
    have HX := Lib.hid (show oneD (bytesOf s) k = .tok ⟨4, k, m, 0⟩ by rw [HO.out, if_neg h0])
    go_enter Tryd.func33, Tryd.ntmps33
    go_wp2_with (first
      | (go_at_call 25; refine (letterP _ _).mono ?_; rintro e w' ⟨rfl, rfl⟩)
      | (go_at_call 34; refine (digitP _ _).mono ?_; rintro e w' ⟨rfl, rfl⟩)
      | (go_at_call 41; refine (hS _).mono ?_; rintro e w' ⟨rfl, rfl⟩))
    refine ret_of ?_ rfl
    refine ⟨_, by simp [results, Tryd.results33, go_sem], nextE_tok HX.out (tokV_eq s 4 0 rfl), by repeat (first | exact Below.refl _ _ | (with_reducible refine Below.alloc ?_ (by simp) _) | (with_reducible refine below_alloc ?_ _) | (with_reducible refine Below.setCell ?_ (by simp) _))⟩
end Go.Proofs.YtihfllkgoolkhaaDoor
