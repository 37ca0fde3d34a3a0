/-
  Layer 7 (wide): the walk of the reference's number: that of a row of digits.
-/
import Derived.Test.YtofibaomjidieaaDoorDigP
import Derived.Deep.RegionWith
import Derived.Laws.BitsAllLaws
namespace Go.Proofs.YtofibaomjidieaaDoor
open Go.RowKit
set_option linter.unusedSimpArgs false
set_option linter.unusedVariables false
/-- A row that is read: its block is there, and its cells hold the numbers. -/
structure DRow (w : World) (g : Nat) (l : List Nat) : Prop where
  lt : g < w.heap.size
  at_ : ∀ k, k < l.length → w.cell? ⟨g, k, none⟩ = some (.int .u64 (nth l k : Int))
theorem DRow.go {w w' : World} {B g : Nat} {l : List Nat} (h : DRow w g l) (hb : Below B w w') (hg : g < B) : DRow w' g l := by
  refine ⟨?_, fun k hk => (hb.cell (p := ⟨g, k, none⟩) hg).trans (h.at_ k hk)⟩
  have := hb.size; have := h.lt; omega
theorem pow_16 (k : Nat) : (65536 : Nat) ^ k = 2 ^ (16 * k) := by rw [show (65536 : Nat) = 2 ^ 16 by decide, ← Nat.pow_mul]
theorem dig_room {z x k : Nat} (hk : k < 4) (hz : z < 65536 ^ k) (hx : x < 65536) : z + 65536 ^ k * x < 18446744073709551616 := by
  have h1 : z + 65536 ^ k * x < 65536 ^ k * 65536 := by
    have : 65536 ^ k * (x + 1) ≤ 65536 ^ k * 65536 := Nat.mul_le_mul_left _ (by omega)
    rw [Nat.mul_add] at this; omega
  have h2 : 65536 ^ (k + 1) ≤ 65536 ^ 4 := Nat.pow_le_pow_right (by decide) (by omega)
  rw [Nat.pow_succ, show (65536 : Nat) ^ 4 = 18446744073709551616 by decide] at h2
  omega
theorem shl_dig {x k : Nat} (hk : k < 4) (hx : x < 65536) : Op.shift .shl .u64 (x : Int) .i64 (16 * (k : Int)) = pure (.int .u64 ((65536 ^ k * x : Nat) : Int)) := by
  have h := dig_room (z := 0) hk (Nat.pos_of_ne_zero (by simp)) hx
  rw [shift_shl_any _ _ _ _ (by omega), show (16 * (k : Int)).toNat = 16 * k by omega, show min (16 * k) IntKind.u64.bits = 16 * k by simp [IntKind.bits]; omega]
  have e : (x : Int) * 2 ^ (16 * k) = ((65536 ^ k * x : Nat) : Int) := by rw [pow_16]; simp [Int.mul_comm]
  rw [e, IntKind.wrap_u64, Int.emod_eq_of_lt (Int.natCast_nonneg _) (by omega)]
theorem or_dig {z x k : Nat} (hk : k < 4) (hz : z < 65536 ^ k) (hx : x < 65536) : bits .or .u64 (z : Int) ((65536 ^ k * x : Nat) : Int) = (z : Int) + ((65536 ^ k * x : Nat) : Int) := by
  have h := dig_room hk hz hx
  rw [← Int.natCast_add]
  have h1 : z < 2 ^ (16 * k) := by rw [← pow_16]; exact hz
  rw [u64_or_nat _ _ (by omega) (by omega)]
  rw [pow_16, Nat.or_comm, ← Nat.two_pow_add_eq_or_of_lt h1, Nat.add_comm]
structure NMem (w : World) (l : List Nat) (k : Nat) (W : World) : Prop where
  below : Below w.heap.size w W
  br : Whl W w.heap.size 24 #[.int .u64 0, .int .u64 0]
  ba : Whl W (w.heap.size + 1) 24 #[.int .u64 ((wd (valD (l.take (min k 8)))).hi : Int), .int .u64 ((wd (valD (l.take (min k 8)))).lo : Int)]
  zero : ∀ j, 8 ≤ j → j < k → nth l j = 0
theorem wd_low {z : Nat} (hz : z < 18446744073709551616) : wd z = ⟨0, z⟩ := by
  simp only [wd, Wd.mk.injEq]; omega
theorem wd_high {v x j : Nat} (hv : v < 65536 ^ (4 + j)) : wd (v + 65536 ^ (4 + j) * x) = ⟨(wd v).hi + 65536 ^ j * x, (wd v).lo⟩ ∧ (wd v).hi < 65536 ^ j := by
  have e : (65536 : Nat) ^ (4 + j) = 18446744073709551616 * 65536 ^ j := by rw [Nat.pow_add]
  rw [e] at hv ⊢
  rw [Nat.mul_assoc]
  simp only [wd, Wd.mk.injEq]
  refine ⟨by omega, ?_⟩
  exact Nat.div_lt_of_lt_mul hv
theorem NMem.next {w W : World} {l : List Nat} {k : Nat} (h : NMem w l k W) (h8 : 8 ≤ k) (hz : nth l k = 0) : NMem w l (k + 1) W := by
  obtain ⟨a, b, c, d⟩ := h
  refine ⟨a, b, ?_, fun j h1 h2 => ?_⟩
  · rw [show min (k + 1) 8 = min k 8 by omega]; exact c
  · rcases Nat.lt_or_ge j k with q | q
    · exact d j h1 q
    · obtain rfl : j = k := by omega
      exact hz
set_option maxHeartbeats 16000000 in
set_option maxRecDepth 100000 in
theorem numberR (g c : Nat) (l : List Nat) (w : World) (hl : l.length < 4611686018427387904) (h8 : 8 ≤ l.length) (hd : Digs l) (hr : DRow w g l) :
    Calls Tryd.prog 29 #[.slice (some ⟨g, 0, none⟩) l.length c] w fun e w' => e = .returned (.tuple #[(wdOf (valD l)).v, .bool (fits2 (valD l))]) ∧ Below w.heap.size w w' := by
  have hg := hr.lt
  go_enter Tryd.func29, Tryd.ntmps29
  go_wp2
  go_loopw [5] (fun i wr => ∃ k : Nat, k ≤ l.length ∧ i = .int .i64 k ∧ NMem w l k wr) (fun i _ => l.length - (intOf i).toNat)
  case atStart =>
    refine ⟨0, Nat.zero_le _, rfl, ?_, ?_, ?_, fun j h1 h2 => by omega⟩
    · repeat (first | exact Below.refl _ _ | with_reducible apply Below.drew | with_reducible apply below_alloc | (with_reducible refine Below.setCell ?_ (by simp) _))
    · exact (Whl.new _ _ _).alloc _
    · have := Whl.new1 w (.cells #[.int .u64 0, .int .u64 0] 24) 24 #[.int .u64 0, .int .u64 0]
      simpa [valD, wd] using this
  case round =>
    obtain ⟨k, hk, rfl, hM⟩ := hrel
    obtain ⟨hb, br, ba, hz⟩ := hM
    have r0 := br.lt
    have a0 := ba.lt
    have hi := ba.cell 0
    have lo := ba.cell 1
    have fhi := ba.frozen 0
    have flo := ba.frozen 1
    simp only [List.getElem?_toArray, List.getElem?_cons_zero, List.getElem?_cons_succ] at hi lo
    have hr2 := hr.go hb hg
    have hg2 := hr2.lt
    have HZ := Lib.hid hz; clear hz
    by_cases hlt : k < l.length
    · have hx := hr2.at_ k hlt
      have hx2 := nth_lt hd k
      have hV := valD_lt (hd.take k)
      have hN := val_take hlt
      rw [List.length_take, Nat.min_eq_left hk] at hV
      generalize hx0 : nth l k = x at hx hx2 hN
      rcases (by omega : k < 4 ∨ (4 ≤ k ∧ k < 8) ∨ 8 ≤ k) with h4 | ⟨h4, h8'⟩ | h8'
      · have e8 : min k 8 = k := by omega
        have e9 : min (k + 1) 8 = k + 1 := by omega
        generalize hz : valD (l.take k) = z at hV hN
        have hr4 := dig_room h4 hV hx2
        have e0 : wd (valD (l.take (min k 8))) = ⟨0, z⟩ := by rw [e8, hz]; exact wd_low (by omega)
        have e1 : wd (valD (l.take (min (k + 1) 8))) = ⟨0, z + 65536 ^ k * x⟩ := by rw [e9, hN]; exact wd_low hr4
        rw [e0] at ba hi lo
        have HE := Lib.hid e1
        have s1 := shl_dig h4 hx2
        have s2 := or_dig h4 hV hx2
        have s3 : IntKind.i64.wrap (16 * (k : Int)) = 16 * (k : Int) := by simp only [IntKind.wrap, IntKind.bits, IntKind.signed]; simp; omega
        generalize 65536 ^ k * x = y at s1 s2 HE
        have u1 : decide ((8 : Int) ≤ (k : Int)) = false := by simp; omega
        have u2 : decide ((k : Int) < 4) = true := by simp; omega
        have HH := Lib.hid (And.intro (And.intro h4 e8) (And.intro hV (And.intro hr4 e9)))
        clear e0 e1 e8 e9 hN hz hr4 hV hx2 h4
        go_wp2
        go_region_with fail
        all_goals go_wp2
        all_goals
          refine ⟨⟨k + 1, hlt, by go_num, ?_, ?_, ?_, fun j h1 h2 => absurd h1 (by have := HH.out.1.1; omega)⟩, by simp [intOf]; omega⟩
          · repeat (first | exact hb | with_reducible apply Below.drew | with_reducible apply below_alloc | (with_reducible refine Below.setCell ?_ (by simp) _))
          · exact (br.far (p := ⟨w.heap.size + 1, 1, none⟩) (by simp) _).drew
          · rw [HE.out]; exact (ba.put 1 (.int .u64 ((z : Int) + (y : Int)))).drew
      · obtain ⟨j, rfl⟩ : ∃ j, k = 4 + j := ⟨k - 4, by omega⟩
        have e8 : min (4 + j) 8 = 4 + j := by omega
        have e9 : min (4 + j + 1) 8 = 4 + j + 1 := by omega
        generalize hz : valD (l.take (4 + j)) = v at hV hN
        have e0 : valD (l.take (min (4 + j) 8)) = v := by rw [e8, hz]
        rw [e0] at ba hi lo
        obtain ⟨e1, hV2⟩ := wd_high (x := x) hV
        rw [← hN] at e1
        have hj : j < 4 := by omega
        have HE := Lib.hid (show wd (valD (l.take (min (4 + j + 1) 8))) = ⟨(wd v).hi + 65536 ^ j * x, (wd v).lo⟩ by rw [e9]; exact e1)
        have s1 := shl_dig hj hx2
        have s2 := or_dig hj hV2 hx2
        generalize 65536 ^ j * x = y at s1 s2 HE
        have s3 : IntKind.i64.wrap (16 * (j : Int)) = 16 * (j : Int) := by simp only [IntKind.wrap, IntKind.bits, IntKind.signed]; simp; omega
        have s4 : IntKind.i64.wrap (((4 + j : Nat) : Int) - 4) = (j : Int) := by simp only [IntKind.wrap, IntKind.bits, IntKind.signed]; simp; omega
        have u1 : decide ((8 : Int) ≤ ((4 + j : Nat) : Int)) = false := by simp; omega
        have u2 : decide (((4 + j : Nat) : Int) < 4) = false := by simp; omega
        have u3 : decide (((4 + j : Nat) : Int) < 8) = true := by simp; omega
        have hk8 : j < 4 := hj
        clear e0 e1 e8 e9 hN hz hV hV2 hx2 h4 h8' hj
        generalize hkk : 4 + j = k at *
        generalize wd v = V at *
        have HK := Lib.hid hkk
        have HJ := Lib.hid hk8
        clear hkk hk8
        go_wp2
        go_region_with fail
        all_goals go_wp2
        all_goals
          refine ⟨⟨k + 1, hlt, by go_num, ?_, ?_, ?_, fun i h1 h2 => absurd h1 (by have := HK.out; have := HJ.out; omega)⟩, by simp [intOf]; omega⟩
          · repeat (first | exact hb | with_reducible apply Below.drew | with_reducible apply below_alloc | (with_reducible refine Below.setCell ?_ (by simp) _))
          · exact (br.far (p := ⟨w.heap.size + 1, 0, none⟩) (by simp) _).drew
          · rw [HE.out]; exact (ba.put 0 (.int .u64 ((V.hi : Int) + (y : Int)))).drew
      · have u1 : decide ((8 : Int) ≤ (k : Int)) = true := by simp; omega
        have u2 : decide ((k : Int) < 4) = false := by simp; omega
        have u3 : decide ((k : Int) < 8) = false := by simp; omega
        have hz8 : nth l k = x := hx0
        have br' := br
        have fr0 := br.frozen 0
        have fr1 := br.frozen 1
        have q0 : wr.cell? ⟨w.heap.size, 0, none⟩ = some (.int .u64 0) := br.cell 0
        have q1 : wr.cell? ⟨w.heap.size, 1, none⟩ = some (.int .u64 0) := br.cell 1
        clear hN hV hx2 hx0
        by_cases hp : 0 < x
        · have u4 : decide (0 < x) = true := by simp; omega
          have hf := fits_not h8' hlt (by rw [hz8]; exact hp)
          have HF := Lib.hid (show wdOf (valD l) = ⟨0, 0⟩ ∧ fits2 (valD l) = false from ⟨by simp [wdOf, hf], hf⟩)
          clear hf hp hz8
          go_wp2
          refine ret_of ?_ rfl
          refine ⟨.tuple #[Wd.v ⟨0, 0⟩, .bool false], ?_, by rw [HF.out.1, HF.out.2], ?_⟩
          · have z := (br.put 0 (.int .u64 0)).put 1 (.int .u64 0)
            simp [results, Tryd.results29, go_sem, z.cell]
          · repeat (first | exact hb | with_reducible apply Below.drew | with_reducible apply below_alloc | (with_reducible refine Below.setCell ?_ (by simp) _))
        · obtain rfl : x = 0 := by omega
          have u4 : decide (0 < 0) = false := by decide
          have HM := Lib.hid (NMem.next ⟨hb, br, ba, HZ.out⟩ h8' hz8)
          clear hp hz8
          go_wp2
          go_roundw
          case rel => exact ⟨k + 1, hlt, by go_num, HM.out⟩
          case measure => simp [intOf]; omega
    · obtain rfl : k = l.length := by omega
      have hfe := fits_eight hd h8 HZ.out
      have e8 : min l.length 8 = 8 := by omega
      rw [e8, ← hfe.2] at ba hi lo
      have HF := Lib.hid (show wdOf (valD l) = wd (valD l) ∧ fits2 (valD l) = true from ⟨by simp [wdOf, hfe.1], hfe.1⟩)
      have fr0 := br.frozen 0
      have fr1 := br.frozen 1
      have q0 : wr.cell? ⟨w.heap.size, 0, none⟩ = some (.int .u64 0) := br.cell 0
      have q1 : wr.cell? ⟨w.heap.size, 1, none⟩ = some (.int .u64 0) := br.cell 1
      generalize wd (valD l) = V at *
      clear hfe e8
      go_wp2
      refine ret_of ?_ rfl
      refine ⟨.tuple #[V.v, .bool true], ?_, by rw [HF.out.1, HF.out.2], ?_⟩
      · have z := (br.put 0 (.int .u64 (V.hi : Int))).put 1 (.int .u64 (V.lo : Int))
        simp [results, Tryd.results29, go_sem, z.cell]
      · repeat (first | exact hb | with_reducible apply Below.drew | with_reducible apply below_alloc | (with_reducible refine Below.setCell ?_ (by simp) _))
end Go.Proofs.YtofibaomjidieaaDoor
