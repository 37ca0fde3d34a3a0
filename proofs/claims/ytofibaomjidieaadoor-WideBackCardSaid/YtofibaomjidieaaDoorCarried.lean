/-
  Layer 7 (wide): the walk of the reference's carried: the digits of a row, each of them below 65536.
-/
import Derived.Test.YtofibaomjidieaaDoorNumber
namespace Go.Proofs.YtofibaomjidieaaDoor
open Go.RowKit
set_option linter.unusedSimpArgs false
set_option linter.unusedVariables false
/-- An own row, as a row that is read. -/
theorem OMem.row {w W : World} {B : Nat} {v : Value} {l : List Nat} (h : OMem w B v l W) (h0 : 0 < l.length) : ∃ g c, v = .slice (some ⟨g, 0, none⟩) l.length c ∧ B ≤ g ∧ DRow W g l := by
  obtain ⟨g, c, rfl, hb, hlt⟩ := h.own.form h0
  refine ⟨g, c, rfl, hb, hlt, fun k hk => ?_⟩
  rw [h.own.cellAt k (by omega)]
  simp [U64s, nth, hk]
theorem carry_step {L : List Nat} {v x o n : Nat} (k : Nat) (hl : L.length = k) (hd : Digs L) (hv : valD L + 65536 ^ k * o = v) (hn : x + o = n) : Digs (L ++ [n % 65536]) ∧ valD (L ++ [n % 65536]) + 65536 ^ (k + 1) * (n / 65536) = v + 65536 ^ k * x := by
  refine ⟨hd.snoc (Nat.mod_lt _ (by decide)), ?_⟩
  rw [valD_snoc, hl, ← hv, Nat.pow_succ, Nat.mul_assoc, Nat.add_assoc, ← Nat.mul_add, Nat.mod_add_div, ← hn, Nat.mul_add]
  omega
theorem over_step {L m o : Nat} (h : o * 65536 ^ (L - m) < 18446744073709551616) (hm : m ≤ L) : (o / 65536) * 65536 ^ (L + 1 - m) < 18446744073709551616 := by
  rw [show L + 1 - m = L - m + 1 by omega, Nat.pow_succ, Nat.mul_comm (65536 ^ _) 65536, ← Nat.mul_assoc]
  exact Nat.lt_of_le_of_lt (Nat.mul_le_mul_right _ (Nat.div_mul_le_self o 65536)) h
theorem over_len {L m o : Nat} (h : o * 65536 ^ (L - m) < 18446744073709551616) (hm : m ≤ L) (ho : 0 < o) : L < m + 4 := by
  rcases Nat.lt_or_ge L (m + 4) with q | q
  · exact q
  · have h1 : 65536 ^ 4 ≤ 65536 ^ (L - m) := Nat.pow_le_pow_right (by decide) (by omega)
    have h2 : 65536 ^ (L - m) ≤ o * 65536 ^ (L - m) := Nat.le_mul_of_pos_left _ ho
    rw [show (65536 : Nat) ^ 4 = 18446744073709551616 by decide] at h1
    omega
set_option maxHeartbeats 16000000 in
set_option maxRecDepth 100000 in
theorem carriedR (g c : Nat) (l : List Nat) (w : World) (hl : l.length < 1000000) (hs : ∀ k, k < l.length → nth l k < 4611686018427387904) (hr : DRow w g l) :
    Calls Tryd.prog 30 #[.slice (some ⟨g, 0, none⟩) l.length c] w fun e w' => ∃ v L, e = .returned v ∧ OMem w w.heap.size v L w' ∧ Digs L ∧ valD L = valD l ∧ l.length ≤ L.length ∧ L.length ≤ l.length + 4 := by
  have hg := hr.lt
  obtain ⟨i0, hi, hz0, hz1, hz2⟩ := info_parts infoU
  go_enter Tryd.func30, Tryd.ntmps30
  go_wp2
  go_loopw [3, 4, 5] (fun v ov i wr => ∃ k : Nat, ∃ L : List Nat, ∃ o : Nat, k ≤ l.length ∧ i = .int .i64 k ∧ ov = .int .u64 (o : Int) ∧ L.length = k ∧ Digs L ∧ valD L + 65536 ^ k * o = valD (l.take k) ∧ o < 4611686018427387904 ∧ OMem w w.heap.size v L wr) (fun _ _ i _ => l.length - (intOf i).toNat)
  case atStart =>
    refine ⟨0, [], 0, Nat.zero_le _, rfl, rfl, rfl, fun d hd => absurd hd (by simp), by simp [valD], by decide, below_alloc (Below.refl _ _) _, ?_, by simp, Nat.le_refl _⟩
    exact World.ownsRow_made (base := w.heap.size) (e := 22) (size := 1) w #[] 0 (Nat.le_refl _) (by decide) rfl
  case round =>
    obtain ⟨k, L, o, hk, rfl, rfl, hL, hD, hV, ho, hM⟩ := hrel
    have hr2 := hr.go hM.below hg
    have hg2 := hr2.lt
    by_cases hlt : k < l.length
    · have hx := hr2.at_ k hlt
      have hx2 := hs k hlt
      have hN := val_take hlt
      generalize nth l k = x at hx hx2 hN
      obtain ⟨n, hn⟩ : ∃ n, x + o = n := ⟨_, rfl⟩
      have hC := carry_step k hL hD hV hn
      rw [← hN] at hC
      have hn2 : n / 65536 < 4611686018427387904 := by omega
      have s0 : (x : Int) + (o : Int) = (n : Int) := by omega
      have s1 : IntKind.u64.wrap (n : Int) = (n : Int) := by rw [IntKind.wrap_u64]; omega
      have s2 : bits .and .u64 (n : Int) 65535 = ((n % 65536 : Nat) : Int) := by rw [and_low16 _ (Int.natCast_nonneg _) (by omega)]; omega
      generalize n % 65536 = d at s2 hC
      go_wp2_with (
            at_builtin
            refine wpList_append_lies _ rfl _ _ _ rfl w.heap.size 22 i0 (.int .u64 0) 1 8 Tryd.underlying47 hi hz0 hz1 hz2 rfl (by decide) _ _ _ rfl (hM.own.alloc _) ⟨wr.heap.size, 0, none⟩ 1 1 [.int .u64 (d : Int)] rfl ?c1 ?c2 ?c3 ?c4 ?c5 ?c6 ?c7 _ rfl ?_
            case c1 => rfl
            case c2 => exact cell_one_new wr (.int .u64 (d : Int)) 22
            case c3 => simp [Value.oneCell']
            case c4 => decide
            case c5 => unfold maxLen; omega
            case c6 => omega
            case c7 => simp; have := hM.size; omega
            intro g cap w2 hown hgrow hat hlt2
            have hM2 := hM.app hgrow rfl rfl hown
            simp only [hL] at hM2)
      refine ⟨⟨k + 1, L ++ [d], n / 65536, by omega, by go_num, by go_num, by simp [hL], hC.1, hC.2, hn2, hM2⟩, by simp [intOf]; omega⟩
    · obtain rfl : k = l.length := by omega
      have hT : valD L + 65536 ^ L.length * o = valD l := by rw [hL, hV, List.take_length]
      have ho2 : o * 65536 ^ (L.length - l.length) < 18446744073709551616 := by rw [hL, Nat.sub_self]; omega
      have hLL : l.length ≤ L.length := by omega
      have hLe : L.length ≤ l.length + 4 := by omega
      clear hV hL hk hlt hr2 hg2
      go_wp2
      go_loopw [3, 4] (fun v ov wr => ∃ L : List Nat, ∃ o : Nat, ov = .int .u64 (o : Int) ∧ Digs L ∧ valD L + 65536 ^ L.length * o = valD l ∧ l.length ≤ L.length ∧ o * 65536 ^ (L.length - l.length) < 18446744073709551616 ∧ o < 4611686018427387904 ∧ L.length ≤ l.length + 4 ∧ OMem w w.heap.size v L wr) (fun _ ov _ => (intOf ov).toNat)
      case atStart =>
        exact ⟨L, o, rfl, hD, hT, hLL, ho2, ho, hLe, hM⟩
      case round =>
        clear hM hT ho2 hLL hLe hD ho
        obtain ⟨L, o, rfl, hD, hT, hLL, ho2, ho, hlen, hM⟩ := hrel
        by_cases hp : 0 < o
        · have u0 : decide (0 < o) = true := by simp; omega
          have hl4 := over_len ho2 hLL hp
          have ho3 := over_step ho2 hLL
          have hC := carry_step (x := 0) (n := o) L.length rfl hD hT (by omega)
          have hn2 : o / 65536 < 4611686018427387904 := by omega
          have s2 : bits .and .u64 (o : Int) 65535 = ((o % 65536 : Nat) : Int) := by rw [and_low16 _ (Int.natCast_nonneg _) (by omega)]; omega
          generalize o % 65536 = d at s2 hC
          go_wp2_with (
            at_builtin
            refine wpList_append_lies _ rfl _ _ _ rfl w.heap.size 22 i0 (.int .u64 0) 1 8 Tryd.underlying47 hi hz0 hz1 hz2 rfl (by decide) _ _ _ rfl (hM.own.alloc _) ⟨wr.heap.size, 0, none⟩ 1 1 [.int .u64 (d : Int)] rfl ?c1 ?c2 ?c3 ?c4 ?c5 ?c6 ?c7 _ rfl ?_
            case c1 => rfl
            case c2 => exact cell_one_new wr (.int .u64 (d : Int)) 22
            case c3 => simp [Value.oneCell']
            case c4 => decide
            case c5 => unfold maxLen; omega
            case c6 => omega
            case c7 => simp; have := hM.size; omega
            intro g cap w2 hown hgrow hat hlt2
            have hM2 := hM.app hgrow rfl rfl hown)
          refine ⟨⟨L ++ [d], o / 65536, by go_num, hC.1, by simpa using hC.2, by simp; omega, by simpa using ho3, hn2, by simp; omega, hM2⟩, by simp [intOf]; omega⟩
        · obtain rfl : o = 0 := by omega
          go_wp2
          go_ret
          exact ⟨_, L, rfl, hM, hD, by simpa using hT, hLL, hlen⟩
end Go.Proofs.YtofibaomjidieaaDoor
