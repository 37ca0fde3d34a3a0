/-
  Layer 7 (wide): rows of digits to the base 65536, in plain Lean.
-/
import Derived.Test.YtofibaomjidieaaDoorDigits
namespace Go.Proofs.YtofibaomjidieaaDoor
open Go.RowKit
set_option linter.unusedSimpArgs false
set_option linter.unusedVariables false
def nth (l : List Nat) (k : Nat) : Nat := l.getD k 0
def valD : List Nat → Nat
  | [] => 0
  | d :: l => d + 65536 * valD l
def Digs (l : List Nat) : Prop := ∀ d, d ∈ l → d < 65536
theorem nth_mem {l : List Nat} {k : Nat} (h : k < l.length) : nth l k ∈ l := by simp [nth, h]
theorem nth_lt {l : List Nat} (h : Digs l) (k : Nat) : nth l k < 65536 := by
  by_cases hk : k < l.length
  · exact h _ (nth_mem hk)
  · simp [nth, List.getD, List.getElem?_eq_none (by omega : l.length ≤ k)]
theorem valD_app (l m : List Nat) : valD (l ++ m) = valD l + 65536 ^ l.length * valD m := by
  induction l with
  | nil => simp [valD]
  | cons d l ih => simp only [List.cons_append, valD, ih, List.length_cons, Nat.pow_succ, Nat.mul_add, Nat.add_assoc, Nat.mul_comm, Nat.mul_left_comm, Nat.mul_assoc]
theorem valD_one (d : Nat) : valD [d] = d := by simp [valD]
theorem valD_snoc (l : List Nat) (d : Nat) : valD (l ++ [d]) = valD l + 65536 ^ l.length * d := by rw [valD_app, valD_one]
theorem valD_lt {l : List Nat} (h : Digs l) : valD l < 65536 ^ l.length := by
  induction l with
  | nil => simp [valD]
  | cons d l ih =>
    have h1 := h d (by simp)
    have h2 := ih fun x hx => h x (by simp [hx])
    simp only [valD, List.length_cons, Nat.pow_succ]
    omega
theorem Digs.snoc {l : List Nat} (h : Digs l) {d : Nat} (hd : d < 65536) : Digs (l ++ [d]) := fun x hx => by
  rcases List.mem_append.1 hx with q | q
  · exact h x q
  · simp at q; omega
theorem Digs.app {l m : List Nat} (h : Digs l) (k : Digs m) : Digs (l ++ m) := fun x hx => by
  rcases List.mem_append.1 hx with q | q
  · exact h x q
  · exact k x q
theorem Digs.take {l : List Nat} (h : Digs l) (k : Nat) : Digs (l.take k) := fun x hx => h x (List.mem_of_mem_take hx)
theorem take_succ {l : List Nat} {k : Nat} (h : k < l.length) : l.take (k + 1) = l.take k ++ [nth l k] := by
  rw [List.take_add_one, List.getElem?_eq_getElem h]; simp [nth, h]
theorem val_take {l : List Nat} {k : Nat} (h : k < l.length) : valD (l.take (k + 1)) = valD (l.take k) + 65536 ^ k * nth l k := by
  rw [take_succ h, valD_snoc, List.length_take, Nat.min_eq_left (by omega)]
theorem digsOf_digs (n k : Nat) : Digs (digsOf n k) := fun d hd => by
  simp only [digsOf, List.mem_map] at hd
  obtain ⟨i, _, rfl⟩ := hd
  exact Nat.mod_lt _ (by decide)
theorem valD_digsOf (n k : Nat) : valD (digsOf n k) = n % 65536 ^ k := by
  induction k with
  | zero => simp [digsOf, valD, Nat.mod_one]
  | succ k ih => rw [digsOf_succ, valD_snoc, digsOf_len, ih, Nat.mod_pow_succ]; rfl
def digsW (a : Wd) : List Nat := digsOf a.lo 4 ++ digsOf a.hi 4
theorem digsW_len (a : Wd) : (digsW a).length = 8 := by simp [digsW, digsOf_len]
theorem digsW_digs (a : Wd) : Digs (digsW a) := (digsOf_digs _ _).app (digsOf_digs _ _)
theorem valD_digsW {a : Wd} (ha : a.Wf) : valD (digsW a) = a.val := by
  have h1 := ha.hi; have h2 := ha.lo
  rw [digsW, valD_app, valD_digsOf, valD_digsOf, digsOf_len]
  have e : (65536 : Nat) ^ 4 = 18446744073709551616 := by decide
  rw [e, Nat.mod_eq_of_lt h1, Nat.mod_eq_of_lt h2, Wd.val]
  omega
/-- What lies behind the first eight digits. -/
theorem val_split (l : List Nat) (h : 8 ≤ l.length) : valD l = valD (l.take 8) + 340282366920938463463374607431768211456 * valD (l.drop 8) := by
  have := valD_app (l.take 8) (l.drop 8)
  rw [List.take_append_drop, List.length_take, Nat.min_eq_left h] at this
  rw [this, show (65536 : Nat) ^ 8 = 340282366920938463463374607431768211456 by decide]
theorem valD_zero {l : List Nat} (h : ∀ d, d ∈ l → d = 0) : valD l = 0 := by
  induction l with
  | nil => rfl
  | cons d l ih => simp only [valD, ih fun x hx => h x (by simp [hx]), h d (by simp)]
theorem valD_pos {l : List Nat} {k : Nat} (h : 0 < nth l k) : 0 < valD l := by
  induction l generalizing k with
  | nil => simp [nth] at h
  | cons d l ih =>
    cases k with
    | zero => simp [nth] at h; simp only [valD]; omega
    | succ k => have := ih (k := k) (by simpa [nth] using h); simp only [valD]; omega
theorem fits_eight {l : List Nat} (hd : Digs l) (h : 8 ≤ l.length) (hz : ∀ k, 8 ≤ k → k < l.length → nth l k = 0) : fits2 (valD l) = true ∧ valD l = valD (l.take 8) := by
  have e : valD (l.drop 8) = 0 := valD_zero fun d hm => by
    obtain ⟨i, hi, rfl⟩ := List.getElem_of_mem hm
    have := hz (8 + i) (by omega) (by rw [List.length_drop] at hi; omega)
    rw [List.getElem_drop]
    rw [List.length_drop] at hi
    simpa [nth, show 8 + i < l.length by omega] using this
  have e2 := val_split l h
  have e3 := valD_lt (hd.take 8)
  rw [List.length_take, Nat.min_eq_left h, show (65536 : Nat) ^ 8 = 340282366920938463463374607431768211456 by decide] at e3
  rw [e] at e2
  refine ⟨?_, by omega⟩
  simp only [fits2, decide_eq_true_eq]; omega
theorem fits_not {l : List Nat} {k : Nat} (h8 : 8 ≤ k) (hk : k < l.length) (hp : 0 < nth l k) : fits2 (valD l) = false := by
  have e2 := val_split l (by omega)
  have : 0 < valD (l.drop 8) := valD_pos (k := k - 8) (by
    simp only [nth, List.getD, List.getElem?_drop] at hp ⊢
    rwa [show 8 + (k - 8) = k by omega])
  simp only [fits2, decide_eq_false_iff_not]; omega
end Go.Proofs.YtofibaomjidieaaDoor
