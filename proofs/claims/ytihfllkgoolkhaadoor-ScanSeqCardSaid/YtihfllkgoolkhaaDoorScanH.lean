/-
  Layer 1 (scan): the walk of next of package scan at a number.
-/
import Derived.Test.YtihfllkgoolkhaaDoorScanG
import Derived.Lib.AtoiErrMem
namespace Go.Proofs.YtihfllkgoolkhaaDoor
open Go.RowKit
set_option linter.unusedSimpArgs false
set_option linter.unusedVariables false
theorem parseOk (s : ByteArray) (hs : s.size ≤ 9223372036854775806) (v : Int) (h : Lib.parseIntB 64 s.data.toList = .ok v) (w : World) :
    Calls Tryd.prog 40 #[.string s, .int .i64 10, .int .i64 64] w fun e w' => e = .returned (.tuple #[.int .i64 v, .nilIface]) ∧ Below w.heap.size w w' := by
  refine (Tryd.strconv_ParseInt_10_at64_ok s hs v h w).mono ?_
  rintro e w1 ⟨rfl, h1⟩
  refine ⟨rfl, ?_⟩
  rcases h1 with rfl | ⟨t, rfl⟩
  · exact Below.refl _ _
  · exact Lib.bytesWorld_below _ _ _
set_option maxHeartbeats 2000000 in
theorem nextD (s : ByteArray) (g : Nat) (k : Nat) (hk : k < s.size) (hs : s.size ≤ 65536) (w : World)
    (hr : w.cell? ⟨g, 0, none⟩ = some (.string s)) (lg : g < w.heap.size) (hl : letterB s[k] = false) (hd : digitB s[k] = true) (hv : RangeVar w) :
    Calls Tryd.prog 33 #[.pointer (some ⟨g, 0, none⟩), .int .i64 (k : Int)] w fun e w' => NextE s (oneD (bytesOf s) k) e ∧ Below w.heap.size w w' := by
  have hs2 : s.size ≤ maxLen := by unfold maxLen; omega
  have hg := byte_get hk
  have hL := row_digitB s k (Nat.le_of_lt hk) hs2
  have hm1 : k < rowD digitB (bytesOf s) k := by
    have := rowD_ge digitB (bytesOf s) (k + 1)
    rw [rowD_yes hk (by rw [hg]; exact hd)]; exact Nat.lt_of_lt_of_le (Nat.lt_succ_self k) this
  have hm2 := rowD_le (p := digitB) (L := bytesOf s) (k := k) (Nat.le_of_lt hk)
  rw [bytes_len] at hm2
  have HO := Lib.hid (oneD_digit (by rw [hg]; exact hl) (by rw [hg]; exact hd) (rfl : rowD digitB (bytesOf s) k = _))
  have hne := cutL_some hm1 hm2
  have hal := cutL_all (p := digitB) (L := bytesOf s) (k := k)
  generalize rowD digitB (bytesOf s) k = m at *
  have hB := extB s k m
  have hkm : k + (m - k) = m := by omega
  have hv2 := hv.below (below_alloc (below_alloc (Below.refl w.heap.size w) (.cells #[.int .i64 0, .int .i64 0, .string ⟨#[]⟩, .int .i64 0] 30)) (.cells #[.int .i64 2, .int .i64 k, .string (s.extract k m), .int .i64 0] 30))
  obtain ⟨tp, p, hvg, hv⟩ := hv2
  by_cases hr9 : 9223372036854775807 < valN (cutL (bytesOf s) k m)
  · have HPR := Lib.hid (show Lib.parseIntB 64 (s.extract k m).data.toList = .range from (congrArg (Lib.parseIntB 64) hB).trans (parse_range hne hal hr9))
    have HX := Lib.hid (show oneD (bytesOf s) k = .err 11 by rw [HO.out, if_pos (.inr hr9)])
    clear hne hal hr9 hB HO
    go_enter Tryd.func33, Tryd.ntmps33
    go_wp2_with (first
      | (go_at_call 25; refine (letterP _ _).mono ?_; rintro e w' ⟨rfl, rfl⟩)
      | (go_at_call 34; refine (digitP _ _).mono ?_; rintro e w' ⟨rfl, rfl⟩)
      | (go_at_call 26; refine (hL _).mono ?_; rintro e w' ⟨rfl, rfl⟩)
      | (go_at_call 40; refine (Tryd.strconv_ParseInt_10_at64_range_var _ (by rw [ext_size (by omega)]; omega) HPR.out tp p _ hv).mono ?_; rintro e w1 ⟨N, rfl, hN, hN2, hb⟩; have X0 := ((Whl.new w 30 _).alloc _).below' hb; have X1 := (Whl.new1 w _ 30 _).below' hb; have hb0 := Below.trans (below_alloc (below_alloc (Below.refl w.heap.size w) _) _) (hb.mono (by simp; omega)); clear hb hN hN2; obtain ⟨b0, b1, b2, b3, n0, n1, n2, n3, lr⟩ := tokCells X0; obtain ⟨c0, c1, c2, c3, m0, m1, m2, m3, lc⟩ := tokCells X1; clear X0 X1))
    refine ret_of ?_ rfl
    refine ⟨_, by simp [results, Tryd.results33, go_sem, b0, b1, b2, b3, n0, n1, n2, n3, lr, c0, c1, c2, c3]; rfl, nextE_err HX.out (by decide) (by exact ⟨_, _, _, _, rfl⟩), ?_⟩
    repeat (first | exact hb0 | (with_reducible refine Below.setCell ?_ (by simp) _))
  · have HPR := Lib.hid (show Lib.parseIntB 64 (s.extract k m).data.toList = .ok _ from (congrArg (Lib.parseIntB 64) hB).trans (parse_ok hne hal hr9))
    generalize valN (cutL (bytesOf s) k m) = v at *
    clear hne hal hB hv hvg
    have HR9 := Lib.hid hr9
    clear hr9
    by_cases hz : 1 < m - k ∧ s[k] = 48
    · have HX := Lib.hid (show oneD (bytesOf s) k = .err 11 by rw [HO.out, if_pos (.inl (by rw [hg]; exact hz))])
      have d1 : decide ((1 : Int) < ((m - k : Nat) : Int)) = true := by simp; omega
      have d2 : (((s[k]).toNat : Int) == 48) = true := by rw [hz.2]; rfl
      clear HO HR9 hz
      go_enter Tryd.func33, Tryd.ntmps33
      go_wp2_with (first
        | (go_at_call 25; refine (letterP _ _).mono ?_; rintro e w' ⟨rfl, rfl⟩)
        | (go_at_call 34; refine (digitP _ _).mono ?_; rintro e w' ⟨rfl, rfl⟩)
        | (go_at_call 26; refine (hL _).mono ?_; rintro e w' ⟨rfl, rfl⟩)
        | (go_at_call 40; refine (parseOk _ (by rw [ext_size (by omega)]; omega) _ HPR.out _).mono ?_; rintro e w1 ⟨rfl, hb⟩; have X0 := ((Whl.new w 30 _).alloc _).below' hb; have X1 := (Whl.new1 w _ 30 _).below' hb; have hb0 := Below.trans (below_alloc (below_alloc (Below.refl w.heap.size w) _) _) (hb.mono (by simp; omega)); clear hb; obtain ⟨b0, b1, b2, b3, n0, n1, n2, n3, lr⟩ := tokCells X0; obtain ⟨c0, c1, c2, c3, m0, m1, m2, m3, lc⟩ := tokCells X1; clear X0 X1))
      refine ret_of ?_ rfl
      refine ⟨_, by simp [results, Tryd.results33, go_sem, b0, b1, b2, b3, n0, n1, n2, n3, lr, c0, c1, c2, c3]; rfl, nextE_err HX.out (by decide) (by exact ⟨_, _, _, _, rfl⟩), ?_⟩
      repeat (first | exact hb0 | (with_reducible refine Below.setCell ?_ (by simp) _))
    · have HX := Lib.hid (show oneD (bytesOf s) k = .tok ⟨2, k, m - k, (v : Int)⟩ by rw [HO.out, if_neg (by rw [hg]; intro h; exact h.elim hz HR9.out)])
      clear HO HR9
      by_cases h1 : 1 < m - k
      · have d1 : decide ((1 : Int) < ((m - k : Nat) : Int)) = true := by simp; omega
        have h48 : s[k] ≠ 48 := fun h => hz ⟨h1, h⟩
        have d2 : (((s[k]).toNat : Int) == 48) = false := byte_ne (c := s[k]) (n := 48) (by decide) (by simpa using h48)
        clear hz h1 h48
        go_enter Tryd.func33, Tryd.ntmps33
        go_wp2_with (first
          | (go_at_call 25; refine (letterP _ _).mono ?_; rintro e w' ⟨rfl, rfl⟩)
          | (go_at_call 34; refine (digitP _ _).mono ?_; rintro e w' ⟨rfl, rfl⟩)
          | (go_at_call 26; refine (hL _).mono ?_; rintro e w' ⟨rfl, rfl⟩)
          | (go_at_call 40; refine (parseOk _ (by rw [ext_size (by omega)]; omega) _ HPR.out _).mono ?_; rintro e w1 ⟨rfl, hb⟩; have X0 := ((Whl.new w 30 _).alloc _).below' hb; have X1 := (Whl.new1 w _ 30 _).below' hb; have hb0 := Below.trans (below_alloc (below_alloc (Below.refl w.heap.size w) _) _) (hb.mono (by simp; omega)); clear hb; obtain ⟨b0, b1, b2, b3, n0, n1, n2, n3, lr⟩ := tokCells X0; obtain ⟨c0, c1, c2, c3, m0, m1, m2, m3, lc⟩ := tokCells X1; clear X0 X1))
        refine ret_of ?_ rfl
        refine ⟨_, by simp [results, Tryd.results33, go_sem, b0, b1, b2, b3, n0, n1, n2, n3, lr, c0, c1, c2, c3], nextE_tok HX.out (tokV_eq s 2 (v : Int) hkm), ?_⟩
        repeat (first | exact hb0 | (with_reducible refine Below.setCell ?_ (by simp) _))

      · have d1 : decide ((1 : Int) < ((m - k : Nat) : Int)) = false := by simp; omega
        clear hz h1
        go_enter Tryd.func33, Tryd.ntmps33
        go_wp2_with (first
          | (go_at_call 25; refine (letterP _ _).mono ?_; rintro e w' ⟨rfl, rfl⟩)
          | (go_at_call 34; refine (digitP _ _).mono ?_; rintro e w' ⟨rfl, rfl⟩)
          | (go_at_call 26; refine (hL _).mono ?_; rintro e w' ⟨rfl, rfl⟩)
          | (go_at_call 40; refine (parseOk _ (by rw [ext_size (by omega)]; omega) _ HPR.out _).mono ?_; rintro e w1 ⟨rfl, hb⟩; have X0 := ((Whl.new w 30 _).alloc _).below' hb; have X1 := (Whl.new1 w _ 30 _).below' hb; have hb0 := Below.trans (below_alloc (below_alloc (Below.refl w.heap.size w) _) _) (hb.mono (by simp; omega)); clear hb; obtain ⟨b0, b1, b2, b3, n0, n1, n2, n3, lr⟩ := tokCells X0; obtain ⟨c0, c1, c2, c3, m0, m1, m2, m3, lc⟩ := tokCells X1; clear X0 X1))
        refine ret_of ?_ rfl
        refine ⟨_, by simp [results, Tryd.results33, go_sem, b0, b1, b2, b3, n0, n1, n2, n3, lr, c0, c1, c2, c3], nextE_tok HX.out (tokV_eq s 2 (v : Int) hkm), ?_⟩
        repeat (first | exact hb0 | (with_reducible refine Below.setCell ?_ (by simp) _))

end Go.Proofs.YtihfllkgoolkhaaDoor
