/-
  Layer 7 (wide): texts and numbers, back and forth, in plain Lean.
-/
import Derived.Test.YtofibaomjidieaaDoorTextP
import Derived.Test.YtofibaomjidieaaDoorParse
namespace Go.Proofs.YtofibaomjidieaaDoor
open Go.RowKit Go.Shelf Go.Lib
set_option linter.unusedSimpArgs false
set_option linter.unusedVariables false
def digL (l : List UInt8) : Bool := l.all fun c => digB c.toNat
def valL (l : List UInt8) : Nat := l.foldl (fun n c => n * 10 + (c.toNat - 48)) 0
theorem byteAt_eq (s : ByteArray) (k : Nat) (h : k < s.data.toList.length) : byteAt s k = (s.data.toList[k]).toNat := by
  unfold byteAt
  rw [List.getD_eq_getElem?_getD, List.getElem?_eq_getElem h]
  rfl
theorem digTo_eq (s : ByteArray) : ∀ k, k ≤ s.data.toList.length → digTo s k = digL (s.data.toList.take k) := by
  intro k
  induction k with
  | zero => intro _; rfl
  | succ k ih =>
    intro h
    rw [digTo, ih (by omega), byteAt_eq s k (by omega), List.take_succ_eq_append_getElem (by omega), digL, digL, List.all_append]
    simp
theorem valTo_eq (s : ByteArray) : ∀ k, k ≤ s.data.toList.length → valTo s k = valL (s.data.toList.take k) := by
  intro k
  induction k with
  | zero => intro _; rfl
  | succ k ih =>
    intro h
    rw [valTo, ih (by omega), byteAt_eq s k (by omega), List.take_succ_eq_append_getElem (by omega), valL, valL, List.foldl_append]
    rfl
theorem size_eq (s : ByteArray) : s.size = s.data.toList.length := rfl
theorem valL_snoc (l : List UInt8) (c : UInt8) : valL (l ++ [c]) = valL l * 10 + (c.toNat - 48) := by rw [valL, valL, List.foldl_append]; rfl
theorem digL_snoc (l : List UInt8) (c : UInt8) : digL (l ++ [c]) = (digL l && digB c.toNat) := by rw [digL, digL, List.all_append]; simp
theorem head_app {l m : List UInt8} (h : l ≠ []) : (l ++ m).head? = l.head? := by
  cases l with
  | nil => exact absurd rfl h
  | cons c r => rfl
theorem snoc_ind {P : List UInt8 → Prop} (h0 : P []) (h1 : ∀ l c, P l → P (l ++ [c])) (l : List UInt8) : P l := by
  have : ∀ m : List UInt8, P m.reverse := fun m => by
    induction m with
    | nil => exact h0
    | cons c m ih => rw [List.reverse_cons]; exact h1 _ _ ih
  simpa using this l.reverse
theorem dig_byte {d : Nat} (h : d < 10) : (UInt8.ofNat (48 + d)).toNat = 48 + d := by
  rw [UInt8.toNat_ofNat']; exact Nat.mod_eq_of_lt (by omega)
/-- A number's digits are digits, have that number, and begin with no 0 but for 0 itself. -/
theorem dec_ok : ∀ n : Nat, digL (decDigits n) = true ∧ valL (decDigits n) = n ∧ decDigits n ≠ [] ∧ (1 ≤ n → (decDigits n).head? ≠ some 48) := by
  intro n
  induction n using Nat.strongRecOn with
  | ind n ih =>
    by_cases h : n < 10
    · rw [decDigits_one h]
      refine ⟨?_, ?_, by simp, fun h1 => ?_⟩
      · simp only [digL, List.all_cons, List.all_nil, Bool.and_true, dig_byte h, digB]
        simp; omega
      · show 0 * 10 + ((UInt8.ofNat (48 + n)).toNat - 48) = n
        rw [dig_byte h]; omega
      · intro e
        have e2 : UInt8.ofNat (48 + n) = 48 := by simpa using e
        have := congrArg UInt8.toNat e2
        rw [dig_byte h] at this
        have h48 : (48 : UInt8).toNat = 48 := by decide
        omega
    · obtain ⟨i1, i2, i3, i4⟩ := ih (n / 10) (by omega)
      rw [decD_big h]
      refine ⟨?_, ?_, by simp, fun _ => ?_⟩
      · rw [digL_snoc, i1, dig_byte (Nat.mod_lt _ (by decide))]
        simp [digB]; omega
      · rw [valL_snoc, i2, dig_byte (Nat.mod_lt _ (by decide))]; omega
      · rw [head_app i3]; exact i4 (by omega)
/-- Digits that begin with no 0, but for 0 itself, are those of their number. -/
theorem dec_back : ∀ (l : List UInt8), l ≠ [] → digL l = true → (1 < l.length → l.head? ≠ some 48) → decDigits (valL l) = l := by
  intro l
  induction l using snoc_ind with
  | h0 => intro h; exact absurd rfl h
  | h1 l c ih =>
    intro _ hd hh
    rw [digL_snoc] at hd
    simp only [Bool.and_eq_true] at hd
    obtain ⟨hl, hc⟩ := hd
    simp only [digB, Bool.and_eq_true, decide_eq_true_eq] at hc
    have hcc : UInt8.ofNat (48 + (c.toNat - 48)) = c := by
      rw [show 48 + (c.toNat - 48) = c.toNat by omega]; simp
    rw [valL_snoc]
    by_cases hn : l = []
    · subst hn
      rw [show valL [] = 0 from rfl, Nat.zero_mul, Nat.zero_add, decDigits_one (by omega), hcc]; rfl
    · have h2 : l.head? ≠ some 48 := by
        have := hh (by
          have : 0 < l.length := List.length_pos_iff.2 hn
          rw [List.length_append]; simp; omega)
        rwa [head_app hn] at this
      have h3 := ih hn hl (fun _ => h2)
      have hp : 1 ≤ valL l := by
        rcases Nat.eq_zero_or_pos (valL l) with q | q
        · rw [q, decDigits_one (by decide)] at h3
          exact absurd (by rw [← h3]; rfl) h2
        · exact q
      rw [decD_big (by omega), show (valL l * 10 + (c.toNat - 48)) / 10 = valL l by omega, show (valL l * 10 + (c.toNat - 48)) % 10 = c.toNat - 48 by omega, h3, hcc]
theorem form_eq (s : ByteArray) : formOk s = true ↔ digL s.data.toList = true ∧ s.data.toList ≠ [] ∧ (1 < s.data.toList.length → s.data.toList.head? ≠ some 48) := by
  have h1 := digTo_eq s s.data.toList.length (Nat.le_refl _)
  rw [List.take_length] at h1
  simp only [formOk, size_eq, h1, Bool.and_eq_true, Bool.not_eq_true', decide_eq_false_iff_not, Bool.and_eq_false_iff]
  clear h1
  cases h : s.data.toList with
  | nil => simp
  | cons c r =>
    have hb : byteAt s 0 = c.toNat := by simp [byteAt, h]
    rw [hb]
    have e : c.toNat = 48 ↔ c = 48 := ⟨fun q => UInt8.toNat_inj.1 (by rw [q]; decide), fun q => by rw [q]; decide⟩
    simp only [e, List.length_cons, List.head?_cons, Option.some.injEq, ne_eq]
    constructor
    · rintro ⟨a, -, b⟩
      exact ⟨a, by simp, fun q r => by rcases b with b | b; exact b r; exact b q⟩
    · rintro ⟨a, -, b⟩
      refine ⟨a, by omega, ?_⟩
      by_cases q : 1 < r.length + 1
      · exact .inl (b q)
      · exact .inr q
theorem parse_text {n : Nat} (h : n < 340282366920938463463374607431768211456) : parseE (BA (decDigits n)) = 0 ∧ parseV (BA (decDigits n)) = wd n := by
  obtain ⟨d1, d2, d3, d4⟩ := dec_ok n
  have e : (BA (decDigits n)).data.toList = decDigits n := by simp
  have hf : formOk (BA (decDigits n)) = true := by
    rw [form_eq, e]
    refine ⟨d1, d3, fun h1 => ?_⟩
    rcases Nat.eq_zero_or_pos n with q | q
    · rw [q, decDigits_one (by decide)] at h1; simp at h1
    · exact d4 q
  have hv : valTo (BA (decDigits n)) (BA (decDigits n)).size = n := by
    rw [size_eq, valTo_eq _ _ (Nat.le_refl _), List.take_length, e, d2]
  have hft : fits2 n = true := by simp only [fits2, decide_eq_true_eq]; exact h
  simp [parseE, parseV, hf, hv, hft, wdOf]
theorem text_parse {s : ByteArray} (h : parseE s = 0) : BA (decDigits (parseV s).val) = s := by
  cases hf : formOk s with
  | false => simp [parseE, hf] at h
  | true =>
    cases hft : fits2 (valTo s s.size) with
    | false => simp [parseE, hf, hft] at h
    | true =>
      have e : parseV s = wd (valTo s s.size) := by simp [parseV, hf, hft, wdOf]
      rw [e, wd_val, size_eq, valTo_eq _ _ (Nat.le_refl _), List.take_length]
      obtain ⟨a, b, c⟩ := (form_eq s).1 hf
      rw [dec_back _ b a c]
theorem parseV_wf (s : ByteArray) : (parseV s).Wf := by
  unfold parseV; split
  · exact wdOf_wf _
  · exact ⟨by decide, by decide⟩
theorem text_len {n : Nat} (h : n < 340282366920938463463374607431768211456) : (BA (decDigits n)).size ≤ maxLen := by
  rw [BA_size, decDigits_length]
  have := nDigits_le (r := n) (k := 39) (by omega) (Nat.lt_of_lt_of_le h (by decide))
  unfold maxLen; omega
end Go.Proofs.YtofibaomjidieaaDoor
