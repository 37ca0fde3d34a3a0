/-
  Layer 8 (span): Do as plain functions; the arithmetic of 64 bits that its walks end in.
-/
import Derived.Test.YtdoikgjdjdgnbaaPlainW
namespace Go.Proofs.Ytdoikgjdjdgnbaa
open Go.RowKit
set_option linter.unusedVariables false

theorem exact_ok {a b : Int} (ha : In64 a) (hb : In64 b) : (decide (a < wrap64 (a + b)) == decide (0 < b)) = Sp.sumOk a b := by
  obtain ⟨_, _⟩ := ha
  obtain ⟨_, _⟩ := hb
  unfold wrap64 Sp.sumOk Sp.inR Sp.least Sp.greatest
  rw [Bool.eq_iff_iff]
  simp
  omega
theorem less_ok {a b : Int} (ha : In64 a) (hb : In64 b) : (decide (wrap64 (a - b) < a) == decide (0 < b)) = Sp.lessOk a b := by
  obtain ⟨_, _⟩ := ha
  obtain ⟨_, _⟩ := hb
  unfold wrap64 Sp.lessOk Sp.inR Sp.least Sp.greatest
  rw [Bool.eq_iff_iff]
  simp
  omega
theorem dist_neg {a : Int} (ha : In64 a) (h : a < 0) : IntKind.u64.wrap (-(IntKind.u64.wrap a)) = (a.natAbs : Int) := by
  obtain ⟨_, _⟩ := ha
  simp [IntKind.wrap, IntKind.bits, IntKind.signed]; omega
theorem dist_pos {a : Int} (ha : In64 a) (h : 0 ≤ a) : IntKind.u64.wrap a = (a.natAbs : Int) := by
  obtain ⟨_, _⟩ := ha
  simp [IntKind.wrap, IntKind.bits, IntKind.signed]; omega
/-- Is a product a number of 64 bits? -/
def mulOk (a b : Int) : Bool := Sp.inR (a * b)
theorem mul_neg_eq {a b : Int} (h : (a < 0 ∧ 0 ≤ b) ∨ (0 ≤ a ∧ b < 0)) : a * b = -((a.natAbs * b.natAbs : Nat) : Int) := by
  rw [Int.natCast_mul]
  rcases h with ⟨h1, h2⟩ | ⟨h1, h2⟩
  · rw [Int.ofNat_natAbs_of_nonpos (by omega), Int.natAbs_of_nonneg h2, Int.neg_mul, Int.neg_neg]
  · rw [Int.natAbs_of_nonneg h1, Int.ofNat_natAbs_of_nonpos (by omega), Int.mul_neg, Int.neg_neg]
theorem mul_pos_eq {a b : Int} (h : (a < 0 ∧ b < 0) ∨ (0 ≤ a ∧ 0 ≤ b)) : a * b = ((a.natAbs * b.natAbs : Nat) : Int) := by
  rw [Int.natCast_mul]
  rcases h with ⟨h1, h2⟩ | ⟨h1, h2⟩
  · rw [Int.ofNat_natAbs_of_nonpos (by omega), Int.ofNat_natAbs_of_nonpos (by omega), Int.neg_mul_neg]
  · rw [Int.natAbs_of_nonneg h1, Int.natAbs_of_nonneg h2]
def mulHi (a b : Int) : Int := ((a.natAbs * b.natAbs / 18446744073709551616 : Nat) : Int)
def mulLo (a b : Int) : Int := ((a.natAbs * b.natAbs % 18446744073709551616 : Nat) : Int)
theorem times_neg {a b : Int} (h : (a < 0 ∧ 0 ≤ b) ∨ (0 ≤ a ∧ b < 0)) :
    wrap64 (-(wrap64 (mulLo a b))) = wrap64 (a * b) ∧ (decide (mulHi a b = 0) && decide (mulLo a b ≤ 9223372036854775808)) = mulOk a b := by
  rw [mulOk, mul_neg_eq h]
  unfold mulLo mulHi
  generalize a.natAbs * b.natAbs = n
  constructor
  · unfold wrap64; omega
  · unfold Sp.inR Sp.least Sp.greatest
    rw [Bool.eq_iff_iff]
    simp only [Bool.and_eq_true, decide_eq_true_eq]
    omega
theorem times_pos {a b : Int} (h : (a < 0 ∧ b < 0) ∨ (0 ≤ a ∧ 0 ≤ b)) :
    wrap64 (mulLo a b) = wrap64 (a * b) ∧ (decide (mulHi a b = 0) && decide (mulLo a b ≤ 9223372036854775807)) = mulOk a b := by
  rw [mulOk, mul_pos_eq h]
  unfold mulLo mulHi
  generalize a.natAbs * b.natAbs = n
  constructor
  · unfold wrap64; omega
  · unfold Sp.inR Sp.least Sp.greatest
    rw [Bool.eq_iff_iff]
    simp only [Bool.and_eq_true, decide_eq_true_eq]
    omega
/-- The greatest rest: one less than the greater distance of the divisor's ends. -/
def leftM (b : Sp) : Int := if b.lo.natAbs < b.hi.natAbs then (b.hi.natAbs : Int) - 1 else (b.lo.natAbs : Int) - 1
def leftS (a b : Sp) : Sp := ⟨if a.lo < 0 then Sp.mx a.lo (-(leftM b)) else 0, if 0 < a.hi then Sp.mn a.hi (leftM b) else 0⟩
theorem leftM_in {b : Sp} (hb : b.Wf) (h : b.lo ≠ 0 ∨ b.hi ≠ 0) : 0 ≤ leftM b ∧ leftM b ≤ 9223372036854775807 := by
  obtain ⟨⟨_, _⟩, _, _⟩ := hb
  unfold leftM; split <;> omega
/-- The divisors that are tried. -/
def cand (b : Sp) : Nat → Int
  | 0 => b.lo
  | 1 => b.hi
  | 2 => -1
  | _ => 1
def candOk (b : Sp) (k : Nat) : Bool := !decide (cand b k = 0) && b.has (cand b k)
/-- The quotients of the first k divisors. -/
def quots (a b : Sp) : Nat → List Int
  | 0 => []
  | k + 1 => if candOk b k = true then quots a b k ++ [wrap64 (a.lo.tdiv (cand b k)), wrap64 (a.hi.tdiv (cand b k))] else quots a b k
theorem candOk_zero {b : Sp} {k : Nat} (h : (cand b k == 0) = true) : candOk b k = false := by
  have : cand b k = 0 := by simpa using h
  simp [candOk, this]
theorem candOk_out {b : Sp} {k : Nat} (h : b.has (cand b k) = false) : candOk b k = false := by simp [candOk, h]
theorem candOk_in {b : Sp} {k : Nat} (h0 : (cand b k == 0) = false) (h : b.has (cand b k) = true) : candOk b k = true := by
  have : ¬ cand b k = 0 := by simpa using h0
  simp [candOk, h, this]
theorem quots_yes {a b : Sp} {k : Nat} (h : candOk b k = true) : quots a b (k + 1) = quots a b k ++ [wrap64 (a.lo.tdiv (cand b k)), wrap64 (a.hi.tdiv (cand b k))] := by simp [quots, h]
theorem quots_no {a b : Sp} {k : Nat} (h : candOk b k = false) : quots a b (k + 1) = quots a b k := by simp [quots, h]
theorem quots_len (a b : Sp) (k : Nat) : (quots a b k).length ≤ 2 * k := by
  induction k with
  | zero => simp [quots]
  | succ k ih => simp only [quots]; split <;> (try simp) <;> omega
theorem quots_grow {a b : Sp} {k : Nat} (h : candOk b k = true) : ∀ n, k < n → 0 < (quots a b n).length
  | 0, hn => absurd hn (by omega)
  | n + 1, hn => by
    rcases Nat.lt_or_ge k n with h1 | h1
    · have := quots_grow (a := a) h n h1
      simp only [quots]; split <;> (try simp) <;> omega
    · obtain rfl : k = n := by omega
      rw [quots_yes h]; simp
theorem quots_some {a b : Sp} (h : b.lo ≤ b.hi) (h0 : b.lo ≠ 0 ∨ b.hi ≠ 0) : 0 < (quots a b 4).length := by
  rcases h0 with h0 | h0
  · exact quots_grow (k := 0) (by simp [candOk, cand, Sp.has, h0, h]) 4 (by omega)
  · exact quots_grow (k := 1) (by simp [candOk, cand, Sp.has, h0, h]) 4 (by omega)
def divS (a b : Sp) : Sp := if a.lo = Sp.least ∧ b.has (-1) = true then Sp.all else hullTo (quots a b 4) (quots a b 4).length
/-- What the reference's product hands back. -/
def prodV (a b : Int) : Int := if a = 0 ∨ b = 0 then 0 else if a = -1 ∨ b = -1 then (if mulOk a b = true then a * b else 0) else wrap64 (a * b)
theorem tdiv_back {p a b k : Int} (hb : b ≠ 0) (hk : p = a * b - k * 18446744073709551616) (hd : p.tdiv b = a) (hbb : b.natAbs < 18446744073709551616) : k = 0 := by
  have h1 := Int.tmod_add_mul_tdiv p b
  rw [hd] at h1
  have h2 : (p.tmod b).natAbs < b.natAbs := by
    rw [Int.natAbs_tmod]
    exact Nat.mod_lt _ (by omega)
  have h3 : p.tmod b = -(k * 18446744073709551616) := by
    have : b * a = a * b := Int.mul_comm b a
    omega
  rw [h3] at h2
  omega
theorem mulOk_iff (a b : Int) : mulOk a b = true ↔ (-9223372036854775808 ≤ a * b ∧ a * b ≤ 9223372036854775807) := by
  unfold mulOk Sp.inR Sp.least Sp.greatest
  rw [Bool.and_eq_true, decide_eq_true_eq, decide_eq_true_eq]
theorem sumOk_iff (a b : Int) : Sp.sumOk a b = true ↔ (-9223372036854775808 ≤ a + b ∧ a + b ≤ 9223372036854775807) := by
  unfold Sp.sumOk Sp.inR Sp.least Sp.greatest
  rw [Bool.and_eq_true, decide_eq_true_eq, decide_eq_true_eq]
theorem lessOk_iff (a b : Int) : Sp.lessOk a b = true ↔ (-9223372036854775808 ≤ a - b ∧ a - b ≤ 9223372036854775807) := by
  unfold Sp.lessOk Sp.inR Sp.least Sp.greatest
  rw [Bool.and_eq_true, decide_eq_true_eq, decide_eq_true_eq]
theorem prod_ok {a b : Int} (ha : In64 a) (hb : In64 b) (a0 : a ≠ 0) (b0 : b ≠ 0) (a1 : a ≠ -1) (b1 : b ≠ -1) :
    (decide ((wrap64 (a * b)).tdiv b = a) && decide ((wrap64 (a * b)).tdiv a = b)) = mulOk a b := by
  obtain ⟨k, hk⟩ : ∃ k, wrap64 (a * b) = a * b - k * 18446744073709551616 := ⟨(a * b + 9223372036854775808) / 18446744073709551616, by unfold wrap64; omega⟩
  have hr : In64 (wrap64 (a * b)) := by unfold wrap64 In64; omega
  obtain ⟨ha1, ha2⟩ := ha
  obtain ⟨hb1, hb2⟩ := hb
  obtain ⟨hr1, hr2⟩ := hr
  cases hm : mulOk a b
  · have hn : ¬ (-9223372036854775808 ≤ a * b ∧ a * b ≤ 9223372036854775807) := fun h => by
      rw [(mulOk_iff a b).2 h] at hm; cases hm
    have hd : ¬ (wrap64 (a * b)).tdiv b = a := fun h => by
      have := tdiv_back b0 hk h (by omega)
      subst this
      omega
    simp [hd]
  · have hn := (mulOk_iff a b).1 hm
    have e : wrap64 (a * b) = a * b := IntWalk.wrap64_in _ hn
    rw [e, Int.mul_tdiv_cancel _ b0, Int.mul_comm a b, Int.mul_tdiv_cancel _ a0]
    simp
theorem mulOk_one {a b : Int} (h : a = -1 ∨ b = -1) : mulOk a b = Sp.lessOk 0 (if a = -1 then b else a) := by
  unfold mulOk Sp.lessOk
  rcases h with h | h
  · subst h; simp
  · subst h
    by_cases ha : a = -1
    · subst ha; simp
    · rw [if_neg ha]; simp
/-- A quotient, behind a name. -/
def qd (p b : Int) : Int := p.tdiv b
theorem tdiv_in {p b : Int} (hp : In64 p) (b0 : b ≠ 0) (b1 : b ≠ -1) : In64 (p.tdiv b) := by
  obtain ⟨h1, h2⟩ := hp
  by_cases hb : b = 1
  · subst hb; rw [Int.tdiv_one]; exact ⟨h1, h2⟩
  · have e : (p.tdiv b).natAbs = p.natAbs / b.natAbs := Int.natAbs_tdiv p b
    have h3 : p.natAbs / b.natAbs ≤ p.natAbs / 2 := Nat.div_le_div_left (by omega) (by omega)
    unfold In64
    omega
theorem qd_wrap {p b : Int} (hp : In64 p) (b0 : b ≠ 0) (b1 : b ≠ -1) : IntKind.i64.wrap (p.tdiv b) = qd p b := IntWalk.i64_in _ (tdiv_in hp b0 b1)
theorem wrap64_In (n : Int) : In64 (wrap64 n) := by unfold wrap64 In64; omega
end Go.Proofs.Ytdoikgjdjdgnbaa
