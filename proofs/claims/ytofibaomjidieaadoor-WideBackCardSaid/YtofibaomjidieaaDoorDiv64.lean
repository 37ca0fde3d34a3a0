/-
  Layer 7 (wide): math/bits.Div64 by ten to the nineteenth: quotient and rest.
-/
import Derived.Test.YtofibaomjidieaaDoorText1
import Derived.Laws.Shifts
import Derived.Deep.CutBlock
import Derived.Laws.BitsAllLaws
namespace Go.Proofs.YtofibaomjidieaaDoor
open Go.RowKit Go.Shelf
set_option linter.unusedSimpArgs false
set_option linter.unusedVariables false
/-- One digit of the long division, as it is sought: 2^32 is the base, 10^19 the divisor. -/
structure Kn (h u q r : Nat) : Prop where
  sum : q * 2328306436 + r = h
  room : r < 4294967296
  top : (h * 4294967296 + u) / 10000000000000000000 ≤ q
theorem Kn.start {h u : Nat} (hh : h < 10000000000000000000) (hu : u < 4294967296) : Kn h u (h / 2328306436) (h % 2328306436) := ⟨by omega, by omega, by omega⟩
theorem Kn.small {h u q r : Nat} (hh : h < 10000000000000000000) (k : Kn h u q r) : q < 4294967300 := by have := k.sum; omega
theorem Kn.lt {h u q r : Nat} (hh : h < 10000000000000000000) (hu : u < 4294967296) (k : Kn h u q r) (c : 4294967296 ≤ q ∨ 4294967296 * r + u < q * 2313682944) : h * 4294967296 + u < q * 10000000000000000000 := by
  have a := k.sum
  rcases c with c | c
  · have : 4294967296 * 10000000000000000000 ≤ q * 10000000000000000000 := Nat.mul_le_mul_right _ c
    omega
  · omega
theorem Kn.more {h u q r : Nat} (hh : h < 10000000000000000000) (hu : u < 4294967296) (k : Kn h u q r) (c : 4294967296 ≤ q ∨ 4294967296 * r + u < q * 2313682944) : 1 ≤ q ∧ (h * 4294967296 + u) / 10000000000000000000 ≤ q - 1 := by
  have h1 := k.lt hh hu c
  have h2 : (h * 4294967296 + u) / 10000000000000000000 < q := (Nat.div_lt_iff_lt_mul (by decide)).2 h1
  omega
theorem Kn.step {h u q r : Nat} (hh : h < 10000000000000000000) (hu : u < 4294967296) (k : Kn h u q r) (c : 4294967296 ≤ q ∨ 4294967296 * r + u < q * 2313682944) (hr : r + 2328306436 < 4294967296) : Kn h u (q - 1) (r + 2328306436) := by
  obtain ⟨h1, h2⟩ := k.more hh hu c
  refine ⟨?_, hr, h2⟩
  have e : q = (q - 1) + 1 := (Nat.sub_add_cancel h1).symm
  have h3 := k.sum
  rw [e, Nat.add_mul, Nat.one_mul] at h3
  rw [← h3, Nat.add_assoc, Nat.add_comm r]
set_option maxRecDepth 100000 in
theorem Kn.stop {h u q r : Nat} (hh : h < 10000000000000000000) (hu : u < 4294967296) (k : Kn h u q r) (c : 4294967296 ≤ q ∨ 4294967296 * r + u < q * 2313682944) (hr : 4294967296 ≤ r + 2328306436) : q - 1 = (h * 4294967296 + u) / 10000000000000000000 := by
  obtain ⟨h1, h2⟩ := k.more hh hu c
  have := k.sum
  have := k.small hh
  omega
set_option maxRecDepth 100000 in
theorem Kn.done {h u q r : Nat} (hh : h < 10000000000000000000) (hu : u < 4294967296) (k : Kn h u q r) (c1 : q < 4294967296) (c2 : q * 2313682944 ≤ 4294967296 * r + u) : q = (h * 4294967296 + u) / 10000000000000000000 := by
  obtain ⟨a, b, d⟩ := k
  omega
set_option maxRecDepth 100000 in
theorem kn_join {h u1 u0 : Nat} (hh : h < 10000000000000000000) (h1 : u1 < 4294967296) (h0 : u0 < 4294967296) {q1 q0 m : Nat} (e1 : q1 = (h * 4294967296 + u1) / 10000000000000000000) (em : m = (h * 4294967296 + u1) % 10000000000000000000) (e0 : q0 = (m * 4294967296 + u0) / 10000000000000000000) :
    q1 * 4294967296 + q0 = (h * 18446744073709551616 + (u1 * 4294967296 + u0)) / 10000000000000000000 ∧ (m * 4294967296 + u0) % 10000000000000000000 = (h * 18446744073709551616 + (u1 * 4294967296 + u0)) % 10000000000000000000 := by
  omega
theorem and_low32 (z : Int) (h0 : 0 ≤ z) (h1 : z < 18446744073709551616) : bits .and .u64 z 4294967295 = z % 4294967296 := by go_bits2
theorem wrapN (n : Nat) : IntKind.u64.wrap (n : Int) = ((n % 18446744073709551616 : Nat) : Int) := by rw [IntKind.wrap_u64]; omega
theorem wrap_lt {n : Nat} (h : n < 18446744073709551616) : IntKind.u64.wrap (n : Int) = (n : Int) := by rw [IntKind.wrap_u64]; omega
theorem wrap_diff {N Q m : Nat} (h : N = Q + m) (hm : m < 18446744073709551616) : IntKind.u64.wrap (((N % 18446744073709551616 : Nat) : Int) - ((Q % 18446744073709551616 : Nat) : Int)) = (m : Int) := by rw [IntKind.wrap_u64]; omega
theorem wrap_sum (x u : Nat) : IntKind.u64.wrap (((x % 18446744073709551616 : Nat) : Int) + (u : Int)) = (((x + u) % 18446744073709551616 : Nat) : Int) := by rw [IntKind.wrap_u64]; omega
theorem wrap_mulc (x c : Nat) : IntKind.u64.wrap ((x : Int) * (c : Int)) = ((x * c % 18446744073709551616 : Nat) : Int) := by rw [← Int.natCast_mul, wrapN]
theorem stage {h u q m : Nat} (hN : h * 4294967296 + u = q * 10000000000000000000 + m) (hm : m < 18446744073709551616) : ∃ a1 a2 a3 : Nat, IntKind.u64.wrap ((h : Int) * 4294967296) = (a1 : Int) ∧ IntKind.u64.wrap ((a1 : Int) + (u : Int)) = (a2 : Int) ∧
    IntKind.u64.wrap ((q : Int) * 10000000000000000000) = (a3 : Int) ∧ IntKind.u64.wrap ((a2 : Int) - (a3 : Int)) = (m : Int) :=
  ⟨_, _, _, wrap_mulc h 4294967296, wrap_sum (h * 4294967296) u, wrap_mulc q 10000000000000000000, wrap_diff hN hm⟩
theorem quo {q1 q0 Q : Nat} (hQ : q1 * 4294967296 + q0 = Q) (hl : Q < 18446744073709551616) : ∃ a1 : Nat, IntKind.u64.wrap ((q1 : Int) * 4294967296) = (a1 : Int) ∧ IntKind.u64.wrap ((a1 : Int) + (q0 : Int)) = (Q : Int) := by
  refine ⟨_, wrap_mulc q1 4294967296, ?_⟩
  have := wrap_sum (q1 * 4294967296) q0
  rwa [hQ, Nat.mod_eq_of_lt hl] at this
set_option maxHeartbeats 16000000 in
set_option maxRecDepth 100000 in
theorem div64 (hi lo : Nat) (h1 : hi < 10000000000000000000) (h2 : lo < 18446744073709551616) (w : World) : Calls Tryd.prog 33 #[.int .u64 (hi : Int), .int .u64 (lo : Int), .int .u64 10000000000000000000] w fun e w' =>
    e = .returned (.tuple #[.int .u64 (((hi * 18446744073709551616 + lo) / 10000000000000000000 : Nat) : Int), .int .u64 (((hi * 18446744073709551616 + lo) % 10000000000000000000 : Nat) : Int)]) ∧ Below w.heap.size w w' := by
  have hlz := fun W => Tryd.bits_LeadingZeros64 10000000000000000000 W (by decide) (by decide)
  rw [show Lib.bitLen (10000000000000000000 : Int).toNat = 64 by decide +kernel] at hlz
  have q1 : bits .and .u64 10000000000000000000 4294967295 = 2313682944 := by decide +kernel
  have u0 : decide ((10000000000000000000 : Int) ≤ (hi : Int)) = false := by simp; omega
  by_cases hz : hi = 0
  · subst hz
    have t1 : (lo : Int).tdiv 10000000000000000000 = ((lo / 10000000000000000000 : Nat) : Int) := by rw [Int.tdiv_eq_ediv_of_nonneg (Int.natCast_nonneg _)]; omega
    have t2 : (lo : Int).tmod 10000000000000000000 = ((lo % 10000000000000000000 : Nat) : Int) := by rw [Int.tmod_eq_emod_of_nonneg (Int.natCast_nonneg _)]; omega
    have t3 : IntKind.u64.wrap ((lo / 10000000000000000000 : Nat) : Int) = ((lo / 10000000000000000000 : Nat) : Int) := wrap_lt (by omega)
    have t4 : IntKind.u64.wrap ((lo % 10000000000000000000 : Nat) : Int) = ((lo % 10000000000000000000 : Nat) : Int) := wrap_lt (by omega)
    rw [Nat.zero_mul, Nat.zero_add]
    generalize lo / 10000000000000000000 = q at *
    generalize lo % 10000000000000000000 = r at *
    go_enter Tryd.func33, Tryd.ntmps33
    go_wp2_with fail
    go_region
    all_goals go_wp2
    all_goals go_ret2
    all_goals exact ⟨rfl, (Below.refl _ _).drew⟩
  · have u1 : ((hi : Int) == 0) = false := by rw [beq_eq_false_iff_ne]; omega
    obtain ⟨u, hu⟩ : ∃ u, lo / 4294967296 = u := ⟨_, rfl⟩
    obtain ⟨v, hv⟩ : ∃ v, lo % 4294967296 = v := ⟨_, rfl⟩
    obtain ⟨q, hq⟩ : ∃ q, hi / 2328306436 = q := ⟨_, rfl⟩
    obtain ⟨r, hr⟩ : ∃ r, hi % 2328306436 = r := ⟨_, rfl⟩
    have ul : u < 4294967296 := by omega
    have vl : v < 4294967296 := by omega
    have e1 : bits .or .u64 (hi : Int) ((lo : Int) / 18446744073709551616) = (hi : Int) := by
      rw [show (lo : Int) / 18446744073709551616 = ((0 : Nat) : Int) by omega, u64_or_nat _ _ (by omega) (by omega)]; simp
    have e2 : bits .and .u64 (lo : Int) 4294967295 = (v : Int) := by rw [and_low32 _ (Int.natCast_nonneg _) (by omega)]; omega
    have e3 : (lo : Int) / 4294967296 = (u : Int) := by omega
    have e4 : (hi : Int).tdiv 2328306436 = (q : Int) := by rw [Int.tdiv_eq_ediv_of_nonneg (Int.natCast_nonneg _)]; omega
    have e5 : IntKind.u64.wrap (q : Int) = (q : Int) := wrap_lt (by omega)
    obtain ⟨p, hp⟩ : ∃ p, q * 2328306436 = p := ⟨_, rfl⟩
    have e6 : (q : Int) * 2328306436 = (p : Int) := by rw [← hp]; simp
    have e7 : IntKind.u64.wrap (p : Int) = (p : Int) := wrap_lt (by omega)
    have e8 : (hi : Int) - (p : Int) = (r : Int) := by omega
    have e9 : IntKind.u64.wrap (r : Int) = (r : Int) := wrap_lt (by omega)
    have K1 := Kn.start h1 ul
    rw [hq, hr] at K1
    have HLO := Lib.hid (show lo = u * 4294967296 + v by omega)
    clear hu hv hq hr hp
    go_enter Tryd.func33, Tryd.ntmps33
    go_upto_block 0 with (go_at_call 35; refine (hlz _).mono ?_; rintro e w1 ⟨rfl, hw⟩; rw [hw])
    go_cut [15, 16] (fun s15 s16 W => s15 = .int .u64 (((hi * 4294967296 + u) / 10000000000000000000 : Nat) : Int) ∧ W = w)
    case first =>
      clear e1 e2 e3 e4 e5 e6 e7 e8 e9
      go_wp2_with fail
      go_loopw [15, 16] (fun s15 s16 W => ∃ q r : Nat, s15 = .int .u64 (q : Int) ∧ s16 = .int .u64 (r : Int) ∧ Kn hi u q r ∧ W = w) (fun s15 _ _ => (intOf s15).toNat)
      case atStart => exact ⟨q, r, rfl, rfl, K1, rfl⟩
      case round =>
        clear K1
        obtain ⟨q, r, rfl, rfl, K, hwr⟩ := hrel
        rw [hwr]
        obtain ⟨q2, hq2⟩ : ∃ q2, q - 1 = q2 := ⟨_, rfl⟩
        obtain ⟨r2, hr2⟩ : ∃ r2, r + 2328306436 = r2 := ⟨_, rfl⟩
        have f2 : (r : Int) + 2328306436 = (r2 : Int) := by omega
        have kr := K.room
        have kq := K.small h1
        have f3 : IntKind.u64.wrap (r2 : Int) = (r2 : Int) := wrap_lt (by omega)
        have f4 : IntKind.u64.wrap (q2 : Int) = (q2 : Int) := wrap_lt (by omega)
        have hc : (decide ((4294967296 : Int) ≤ (q : Int)) = true ∧ (4294967296 ≤ q)) ∨ (decide ((4294967296 : Int) ≤ (q : Int)) = false ∧ q < 4294967296) := by
          rcases Nat.lt_or_ge q 4294967296 with x | x
          · exact .inr ⟨by simp; omega, x⟩
          · exact .inl ⟨by simp; omega, x⟩
        have step : ∀ c : 4294967296 ≤ q ∨ 4294967296 * r + u < q * 2313682944, (q : Int) - 1 = (q2 : Int) ∧ q2 < q ∧ ((r2 < 4294967296 ∧ Kn hi u q2 r2) ∨ (4294967296 ≤ r2 ∧ q2 = (hi * 4294967296 + u) / 10000000000000000000)) := fun c => by
          have hm := K.more h1 ul c
          refine ⟨by omega, by omega, ?_⟩
          rcases Nat.lt_or_ge r2 4294967296 with x | x
          · exact .inl ⟨x, by rw [← hq2, ← hr2]; exact K.step h1 ul c (by omega)⟩
          · exact .inr ⟨x, by rw [← hq2]; exact K.stop h1 ul c (by omega)⟩
        have fin : q < 4294967296 → q * 2313682944 ≤ 4294967296 * r + u → q = (hi * 4294967296 + u) / 10000000000000000000 := fun x y => K.done h1 ul x y
        obtain ⟨p, hp⟩ : ∃ p, q * 2313682944 = p := ⟨_, rfl⟩
        obtain ⟨m, hm⟩ : ∃ m, 4294967296 * r = m := ⟨_, rfl⟩
        obtain ⟨n, hn⟩ : ∃ n, m + u = n := ⟨_, rfl⟩
        rw [hp, hm, hn] at step fin
        have g1 : (q : Int) * 2313682944 = (p : Int) := by rw [← hp]; simp
        have g2 : 4294967296 * (r : Int) = (m : Int) := by rw [← hm]; simp
        have g3 : (m : Int) + (u : Int) = (n : Int) := by omega
        have g4 : IntKind.u64.wrap (m : Int) = (m : Int) := wrap_lt (by omega)
        have g5 : IntKind.u64.wrap (n : Int) = (n : Int) := wrap_lt (by omega)
        have g6 : q < 4294967296 → IntKind.u64.wrap (p : Int) = (p : Int) := fun x => wrap_lt (by omega)
        have HS := Lib.hid step
        have HF := Lib.hid fin
        clear step fin hp hm hn kr kq K
        rcases hc with ⟨c1, c2⟩ | ⟨c1, c2⟩
        · obtain ⟨f1, ql, hst⟩ := HS.out (.inl c2)
          clear c2
          rcases hst with ⟨x, hk⟩ | ⟨x, hk⟩
          · have c3 : decide ((4294967296 : Int) ≤ (r2 : Int)) = false := by simp; omega
            have HK := Lib.hid hk
            clear x hk hq2 hr2 HF
            go_wp2
            go_roundw
            case rel => exact ⟨q2, r2, by first | rfl | go_num, by first | rfl | go_num, HK.out, by first | rfl | trivial⟩
            case measure => simp [intOf]; omega
          · have c3 : decide ((4294967296 : Int) ≤ (r2 : Int)) = true := by simp; omega
            have HK := Lib.hid hk
            clear x hk hq2 hr2 HF
            go_wp2
            go_meet
            exact ⟨by rw [← HK.out], by first | rfl | trivial⟩
        · have g7 := g6 c2
          rcases Nat.lt_or_ge n p with c4 | c4
          · obtain ⟨f1, ql, hst⟩ := HS.out (.inr c4)
            have c5 : decide (n < p) = true := by simp; omega
            clear c4 c2
            rcases hst with ⟨x, hk⟩ | ⟨x, hk⟩
            · have c3 : decide ((4294967296 : Int) ≤ (r2 : Int)) = false := by simp; omega
              have HK := Lib.hid hk
              clear x hk hq2 hr2 HF
              go_wp2
              go_roundw
              case rel => exact ⟨q2, r2, by first | rfl | go_num, by first | rfl | go_num, HK.out, by first | rfl | trivial⟩
              case measure => simp [intOf]; omega
            · have c3 : decide ((4294967296 : Int) ≤ (r2 : Int)) = true := by simp; omega
              have HK := Lib.hid hk
              clear x hk hq2 hr2 HF
              go_wp2
              go_meet
              exact ⟨by rw [← HK.out], by first | rfl | trivial⟩
          · have hk := HF.out c2 c4
            have c5 : decide (n < p) = false := by simp; omega
            have HK := Lib.hid hk
            clear c4 c2 hq2 hr2 hk
            go_wp2
            go_meet
            exact ⟨by rw [← HK.out], by first | rfl | trivial⟩
    case rest =>
      obtain ⟨rfl, hwc⟩ := hcut
      rw [hwc]
      clear e1 e2 e3 e4 e5 e6 e7 e8 e9 K1
      obtain ⟨q1, hq1⟩ : ∃ q1, (hi * 4294967296 + u) / 10000000000000000000 = q1 := ⟨_, rfl⟩
      obtain ⟨m1, hm⟩ : ∃ m1, (hi * 4294967296 + u) % 10000000000000000000 = m1 := ⟨_, rfl⟩
      have hm1 : m1 < 10000000000000000000 := by rw [← hm]; exact Nat.mod_lt _ (by decide)
      have hN : hi * 4294967296 + u = q1 * 10000000000000000000 + m1 := by
        have := Nat.div_add_mod (hi * 4294967296 + u) 10000000000000000000
        rw [hq1, hm, Nat.mul_comm] at this
        exact this.symm
      rw [hq1]
      have HQ1 := Lib.hid hq1
      have HM := Lib.hid hm
      clear hq1 hm
      obtain ⟨a1, a2, a3, f1, f2, f3, f4⟩ := stage hN (by omega)
      clear hN
      obtain ⟨q, hq⟩ : ∃ q, m1 / 2328306436 = q := ⟨_, rfl⟩
      obtain ⟨r, hr⟩ : ∃ r, m1 % 2328306436 = r := ⟨_, rfl⟩
      have e4 : (m1 : Int).tdiv 2328306436 = (q : Int) := by rw [Int.tdiv_eq_ediv_of_nonneg (Int.natCast_nonneg _)]; omega
      have e5 : IntKind.u64.wrap (q : Int) = (q : Int) := wrap_lt (by omega)
      obtain ⟨p, hp⟩ : ∃ p, q * 2328306436 = p := ⟨_, rfl⟩
      have e6 : (q : Int) * 2328306436 = (p : Int) := by rw [← hp]; simp
      have e7 : IntKind.u64.wrap (p : Int) = (p : Int) := wrap_lt (by omega)
      have e8 : (m1 : Int) - (p : Int) = (r : Int) := by omega
      have e9 : IntKind.u64.wrap (r : Int) = (r : Int) := wrap_lt (by omega)
      have K1 := Kn.start hm1 vl
      rw [hq, hr] at K1
      clear hq hr hp
      go_upto_block 2 with fail
      go_cut [18, 16] (fun s18 s16 W => s18 = .int .u64 (((m1 * 4294967296 + v) / 10000000000000000000 : Nat) : Int) ∧ W = w)
      case first =>
        clear e4 e5 e6 e7 e8 e9 f1 f2 f3 f4
        go_wp2_with fail
        go_loopw [18, 16] (fun s15 s16 W => ∃ q r : Nat, s15 = .int .u64 (q : Int) ∧ s16 = .int .u64 (r : Int) ∧ Kn m1 v q r ∧ W = w) (fun s15 _ _ => (intOf s15).toNat)
        case atStart => exact ⟨q, r, rfl, rfl, K1, rfl⟩
        case round =>
          clear K1
          obtain ⟨q, r, rfl, rfl, K, hwr⟩ := hrel
          rw [hwr]
          obtain ⟨q2, hq2⟩ : ∃ q2, q - 1 = q2 := ⟨_, rfl⟩
          obtain ⟨r2, hr2⟩ : ∃ r2, r + 2328306436 = r2 := ⟨_, rfl⟩
          have f2 : (r : Int) + 2328306436 = (r2 : Int) := by omega
          have kr := K.room
          have kq := K.small hm1
          have f3 : IntKind.u64.wrap (r2 : Int) = (r2 : Int) := wrap_lt (by omega)
          have f4 : IntKind.u64.wrap (q2 : Int) = (q2 : Int) := wrap_lt (by omega)
          have hc : (decide ((4294967296 : Int) ≤ (q : Int)) = true ∧ (4294967296 ≤ q)) ∨ (decide ((4294967296 : Int) ≤ (q : Int)) = false ∧ q < 4294967296) := by
            rcases Nat.lt_or_ge q 4294967296 with x | x
            · exact .inr ⟨by simp; omega, x⟩
            · exact .inl ⟨by simp; omega, x⟩
          have step : ∀ c : 4294967296 ≤ q ∨ 4294967296 * r + v < q * 2313682944, (q : Int) - 1 = (q2 : Int) ∧ q2 < q ∧ ((r2 < 4294967296 ∧ Kn m1 v q2 r2) ∨ (4294967296 ≤ r2 ∧ q2 = (m1 * 4294967296 + v) / 10000000000000000000)) := fun c => by
            have hm := K.more hm1 vl c
            refine ⟨by omega, by omega, ?_⟩
            rcases Nat.lt_or_ge r2 4294967296 with x | x
            · exact .inl ⟨x, by rw [← hq2, ← hr2]; exact K.step hm1 vl c (by omega)⟩
            · exact .inr ⟨x, by rw [← hq2]; exact K.stop hm1 vl c (by omega)⟩
          have fin : q < 4294967296 → q * 2313682944 ≤ 4294967296 * r + v → q = (m1 * 4294967296 + v) / 10000000000000000000 := fun x y => K.done hm1 vl x y
          obtain ⟨p, hp⟩ : ∃ p, q * 2313682944 = p := ⟨_, rfl⟩
          obtain ⟨m, hm⟩ : ∃ m, 4294967296 * r = m := ⟨_, rfl⟩
          obtain ⟨n, hn⟩ : ∃ n, m + v = n := ⟨_, rfl⟩
          rw [hp, hm, hn] at step fin
          have g1 : (q : Int) * 2313682944 = (p : Int) := by rw [← hp]; simp
          have g2 : 4294967296 * (r : Int) = (m : Int) := by rw [← hm]; simp
          have g3 : (m : Int) + (v : Int) = (n : Int) := by omega
          have g4 : IntKind.u64.wrap (m : Int) = (m : Int) := wrap_lt (by omega)
          have g5 : IntKind.u64.wrap (n : Int) = (n : Int) := wrap_lt (by omega)
          have g6 : q < 4294967296 → IntKind.u64.wrap (p : Int) = (p : Int) := fun x => wrap_lt (by omega)
          have HS := Lib.hid step
          have HF := Lib.hid fin
          clear step fin hp hm hn kr kq K
          rcases hc with ⟨c1, c2⟩ | ⟨c1, c2⟩
          · obtain ⟨f1, ql, hst⟩ := HS.out (.inl c2)
            clear c2
            rcases hst with ⟨x, hk⟩ | ⟨x, hk⟩
            · have c3 : decide ((4294967296 : Int) ≤ (r2 : Int)) = false := by simp; omega
              have HK := Lib.hid hk
              clear x hk hq2 hr2 HF
              go_wp2
              go_roundw
              case rel => exact ⟨q2, r2, by first | rfl | go_num, by first | rfl | go_num, HK.out, by first | rfl | trivial⟩
              case measure => simp [intOf]; omega
            · have c3 : decide ((4294967296 : Int) ≤ (r2 : Int)) = true := by simp; omega
              have HK := Lib.hid hk
              clear x hk hq2 hr2 HF
              go_wp2
              go_meet
              exact ⟨by rw [← HK.out], by first | rfl | trivial⟩
          · have g7 := g6 c2
            rcases Nat.lt_or_ge n p with c4 | c4
            · obtain ⟨f1, ql, hst⟩ := HS.out (.inr c4)
              have c5 : decide (n < p) = true := by simp; omega
              clear c4 c2
              rcases hst with ⟨x, hk⟩ | ⟨x, hk⟩
              · have c3 : decide ((4294967296 : Int) ≤ (r2 : Int)) = false := by simp; omega
                have HK := Lib.hid hk
                clear x hk hq2 hr2 HF
                go_wp2
                go_roundw
                case rel => exact ⟨q2, r2, by first | rfl | go_num, by first | rfl | go_num, HK.out, by first | rfl | trivial⟩
                case measure => simp [intOf]; omega
              · have c3 : decide ((4294967296 : Int) ≤ (r2 : Int)) = true := by simp; omega
                have HK := Lib.hid hk
                clear x hk hq2 hr2 HF
                go_wp2
                go_meet
                exact ⟨by rw [← HK.out], by first | rfl | trivial⟩
            · have hk := HF.out c2 c4
              have c5 : decide (n < p) = false := by simp; omega
              have HK := Lib.hid hk
              clear c4 c2 hq2 hr2 hk
              go_wp2
              go_meet
              exact ⟨by rw [← HK.out], by first | rfl | trivial⟩
      case rest =>
        obtain ⟨rfl, hwc⟩ := hcut
        rw [hwc]
        clear e4 e5 e6 e7 e8 e9 f1 f2 f3 f4 K1
        obtain ⟨q0, hq0⟩ : ∃ q0, (m1 * 4294967296 + v) / 10000000000000000000 = q0 := ⟨_, rfl⟩
        obtain ⟨m0, hm0⟩ : ∃ m0, (m1 * 4294967296 + v) % 10000000000000000000 = m0 := ⟨_, rfl⟩
        have hm0l : m0 < 10000000000000000000 := by rw [← hm0]; exact Nat.mod_lt _ (by decide)
        have hN : m1 * 4294967296 + v = q0 * 10000000000000000000 + m0 := by
          have := Nat.div_add_mod (m1 * 4294967296 + v) 10000000000000000000
          rw [hq0, hm0, Nat.mul_comm] at this
          exact this.symm
        obtain ⟨j1, j2⟩ := kn_join h1 ul vl HQ1.out.symm HM.out.symm hq0.symm
        rw [← HLO.out] at j1 j2
        rw [hm0] at j2
        have jl : q1 * 4294967296 + q0 < 18446744073709551616 := by
          rw [j1]
          exact (Nat.div_lt_iff_lt_mul (by decide)).2 (by omega)
        rw [hq0]
        clear hq0 hm0
        obtain ⟨Q, hQ⟩ : ∃ Q, q1 * 4294967296 + q0 = Q := ⟨_, rfl⟩
        rw [hQ] at jl j1
        have JJ := Lib.hid (And.intro j1 j2)
        obtain ⟨a1, f1, f2⟩ := quo hQ jl
        obtain ⟨a2, a3, a4, f3, f4, f5, f6⟩ := stage hN (by omega)
        clear hN j1 j2 hQ jl
        go_wp2
        go_ret2
        refine ⟨?_, by first | exact Below.refl _ _ | exact (Below.refl _ _).drew⟩
        rw [← JJ.out.1, ← JJ.out.2]
        rfl
end Go.Proofs.YtofibaomjidieaaDoor
