/-
  Layer 1 (scan): the walk of the reference's one, at a sign; one whole; next whole.
-/
import Derived.Test.YtihfllkgoolkhaaDoorScanW
import Derived.Test.YtihfllkgoolkhaaDoorScanH
namespace Go.Proofs.YtihfllkgoolkhaaDoor
open Go.RowKit
set_option linter.unusedSimpArgs false
set_option linter.unusedVariables false
theorem StrsAt.below {w w' : World} {g : Nat} {l : List ByteArray} (h : StrsAt w g l) (hb : Below w.heap.size w w') : StrsAt w' g l :=
  ⟨Nat.lt_of_lt_of_le h.1 hb.size, fun k hk => by rw [hb.cell (p := ⟨g, k, none⟩) h.1]; exact h.2 k hk⟩
/-- Ahead of each round: the list of signs, the result's box, and what was. -/
structure SInv (w W : World) : Prop where
  strs : StrsAt W (w.heap.size + 1) signsS
  box : Whl W w.heap.size 30 #[.int .i64 0, .int .i64 0, .string ⟨#[]⟩, .int .i64 0]
  below : Below w.heap.size w W
theorem SInv.drew {w W : World} (h : SInv w W) : SInv w W.drew :=
  ⟨h.strs.below (Below.drew (Below.refl _ _)), h.box.drew, Below.drew h.below⟩

set_option maxHeartbeats 4000000 in
theorem oneRS (s : ByteArray) (k : Nat) (hk : k < s.size) (hs : s.size ≤ 65536) (w : World) (hl : letterB s[k] = false) (hd : digitB s[k] = false) :
    Calls Tryd.prog 30 #[.string s, .int .i64 (k : Int)] w fun e w' => NextE s (oneD (bytesOf s) k) e ∧ Below w.heap.size w w' := by
  have hs2 : s.size ≤ maxLen := by unfold maxLen; omega
  have hg := byte_get hk
  have HO := Lib.hid (oneD_sign (by rw [hg]; exact hl) (by rw [hg]; exact hd) : oneD (bytesOf s) k = _)
  have HF := Lib.hid (signF_signs (L := bytesOf s) hk)
  clear hg
  go_enter Tryd.func30, Tryd.ntmps30
  go_wp2_with (first
      | (go_at_call 35; refine (letterR _ _).mono ?_; rintro e w' ⟨rfl, rfl⟩)
      | (go_at_call 36; refine (digitR _ _).mono ?_; rintro e w' ⟨rfl, rfl⟩)
      | (go_at_call 38; refine (signsR _).mono ?_; rintro e w1 ⟨rfl, hW, hb⟩; have HI : SInv w w1 := ⟨by have := whl_strs hW; simpa using this, (Whl.new w _ _).below' hb, below_step (below_alloc (Below.refl _ _) _) hb⟩; clear hW hb))
  go_loopw [11] (fun i wr => ∃ j : Nat, j ≤ 26 ∧ i = .int .i64 j ∧ SInv w wr ∧ signF (bytesOf s) k (signsS.drop j) = signF (bytesOf s) k signsS) (fun i _ => 26 - (intOf i).toNat)
  case atStart => exact ⟨0, by decide, rfl, HI, rfl⟩
  case round =>
    clear HI
    obtain ⟨j, hj, rfl, hI, hr⟩ := hrel
    have HR := Lib.hid hr
    clear hr
    by_cases hlt : j < 26
    · have hj26 : j < signsS.length := hlt
      have hx := hI.strs.2 j hj26
      have lx := hI.strs.1
      obtain ⟨b0, b1, b2, b3, n0, n1, n2, n3, lr⟩ := tokCells hI.box
      have hb0 := hI.below
      obtain ⟨hz1, hz2⟩ := signs_size hj26
      by_cases hfit : k + (signsS[j]).size ≤ s.size
      · have hge : decide (((signsS[j]).size : Int) ≤ (s.size : Int) - (k : Int)) = true := by simp; omega
        cases he : ((s.extract k (k + (signsS[j]).size)).toList == (signsS[j]).toList)
        · have HE := Lib.hid (signF_no hj26 he)
          have HI2 := Lib.hid hI
          clear hI
          generalize signsS[j] = x at *
          go_wp2
          go_region
          go_wp2
          refine ⟨⟨j + 1, by omega, by go_num, HI2.out.drew, by rw [← HE.out]; exact HR.out⟩, by simp [intOf] <;> omega⟩
        · have HE := Lib.hid (signF_yes hj26 he)
          have HX := Lib.hid (show oneD (bytesOf s) k = .tok ⟨4, k, (signsS[j]).size, 0⟩ by rw [HO.out, ← HF.out, ← HR.out, HE.out, if_neg (by omega)])
          clear hI HE HO HF HR
          generalize signsS[j] = x at *
          have hxe : s.extract k (k + x.size) = x := by
            rw [ByteArray.toList_eq, ByteArray.toList_eq, beq_iff_eq] at he
            exact ByteArray.ext (Array.toList_inj.1 he)
          have HV := Lib.hid (show (Value.agg #[.int .i64 4, .int .i64 (k : Int), .string x, .int .i64 0]) = tokV s ⟨4, k, x.size, 0⟩ by rw [tokV, hxe])
          clear hxe
          go_wp2
          go_region
          go_wp2
          refine ret_of ?_ rfl
          refine ⟨_, by simp [results, Tryd.results30, go_sem, b0, b1, b2, b3, n0, n1, n2, n3, lr], nextE_tok HX.out HV.out, by repeat (first | exact hb0 | exact Below.refl _ _ | with_reducible apply Below.drew | (with_reducible refine Below.alloc ?_ (by simp) _) | (with_reducible refine below_alloc ?_ _) | (with_reducible refine Below.setCell ?_ (by simp) _))⟩
      · have hge : decide (((signsS[j]).size : Int) ≤ (s.size : Int) - (k : Int)) = false := by simp; omega
        have HE := Lib.hid (signF_short (s := s) (k := k) hj26 (by omega) (Nat.le_of_lt hk))
        have HI2 := Lib.hid hI
        clear hI
        generalize signsS[j] = x at *
        go_wp2
        go_region
        go_wp2
        refine ⟨⟨j + 1, by omega, by go_num, HI2.out.drew, by rw [← HE.out]; exact HR.out⟩, by simp [intOf] <;> omega⟩
    · obtain rfl : j = 26 := by omega
      have HX := Lib.hid (show oneD (bytesOf s) k = .err 10 by rw [HO.out, if_pos (by rw [← HF.out, ← HR.out]; rfl)])
      obtain ⟨b0, b1, b2, b3, n0, n1, n2, n3, lr⟩ := tokCells hI.box
      have hb0 := hI.below
      clear hI HO HF HR
      go_wp2
      refine ret_of ?_ rfl
      refine ⟨_, by simp [results, Tryd.results30, go_sem, b0, b1, b2, b3, n0, n1, n2, n3, lr]; rfl, nextE_err HX.out (by decide) (by exact ⟨_, _, _, _, rfl⟩), by repeat (first | exact hb0 | exact Below.refl _ _ | (with_reducible refine Below.alloc ?_ (by simp) _) | (with_reducible refine below_alloc ?_ _) | (with_reducible refine Below.setCell ?_ (by simp) _))⟩
theorem oneR (s : ByteArray) (k : Nat) (hk : k < s.size) (hs : s.size ≤ 65536) (w : World) :
    Calls Tryd.prog 30 #[.string s, .int .i64 (k : Int)] w fun e w' => NextE s (oneD (bytesOf s) k) e ∧ Below w.heap.size w w' := by
  cases hl : letterB s[k]
  · cases hd : digitB s[k]
    · exact oneRS s k hk hs w hl hd
    · exact oneRD s k hk hs w hl hd
  · exact oneRL s k hk hs w hl
theorem nextP (s : ByteArray) (g k : Nat) (hk : k < s.size) (hs : s.size ≤ 65536) (w : World) (hr : w.cell? ⟨g, 0, none⟩ = some (.string s)) (lg : g < w.heap.size) (hv : RangeVar w) :
    Calls Tryd.prog 33 #[.pointer (some ⟨g, 0, none⟩), .int .i64 (k : Int)] w fun e w' => NextE s (oneD (bytesOf s) k) e ∧ Below w.heap.size w w' := by
  cases hl : letterB s[k]
  · cases hd : digitB s[k]
    · exact nextS s g k hk hs w hr lg hl hd
    · exact nextD s g k hk hs w hr lg hl hd hv
  · exact nextL s g k hk hs w hr lg hl
end Go.Proofs.YtihfllkgoolkhaaDoor
