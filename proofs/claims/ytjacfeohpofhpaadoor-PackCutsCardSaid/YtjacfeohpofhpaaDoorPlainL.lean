/-
  Layer 9 (code): what May says, as plain functions.
-/
import Derived.Test.YtjacfeohpofhpaaDoorEqual
import Derived.Test.YtjacfeohpofhpaaDoorFind
import Derived.Test.YtjacfeohpofhpaaDoorName
import Derived.IntWalk
namespace Go.Proofs.YtjacfeohpofhpaaDoor
open Go.RowKit
set_option linter.unusedSimpArgs false
set_option linter.unusedVariables false

/-- What is wrong with a field: it is not there and is not 0; it is there and is no register. -/
def fldErr (has : Bool) (r regs : Int) : Int := if has = true then (if r < 0 ∨ regs ≤ r then 61 else 0) else (if r = 0 then 0 else 62)
def hasK (p : Row) : Nat → Bool
  | 0 => p.a
  | 1 => p.b
  | _ => p.c
def regK (x : InsD) : Nat → Int
  | 0 => x.a
  | 1 => x.b
  | _ => x.c
/-- The first of the first k fields that is wrong. -/
def fldsErr (p : Row) (x : InsD) (regs : Int) : Nat → Int
  | 0 => 0
  | k + 1 => if fldsErr p x regs k = 0 then fldErr (hasK p k) (regK x k) regs else fldsErr p x regs k
def nErr (p : Row) (m : ModD) (f : FuncD) (x : InsD) : Int :=
  if p.n = 0 then (if x.n = 0 then 0 else 62) else if p.n = 2 then (if x.n < 0 ∨ f.code.length ≤ x.n then 63 else 0) else if p.n = 3 then (if x.n < 1 ∨ 4096 < x.n then 2 else 0) else
  if p.n = 4 then (if x.n < 0 ∨ m.funcs.length ≤ x.n ∨ f.regs < wrap64 (x.b + (nthF m.funcs x.n.toNat).params.length) then 65 else 0) else 0
def insErr (m : ModD) (f : FuncD) (x : InsD) : Int :=
  if known x.op = true then (if fldsErr (row x.op.toNat) x f.regs 3 = 0 then nErr (row x.op.toNat) m f x else fldsErr (row x.op.toNat) x f.regs 3) else 60
theorem fldErr_cases (has : Bool) (r regs : Int) : (has = false ∧ r = 0 ∧ fldErr has r regs = 0) ∨ (has = false ∧ r ≠ 0 ∧ fldErr has r regs = 62) ∨ (has = true ∧ r < 0 ∧ fldErr has r regs = 61) ∨
    (has = true ∧ 0 ≤ r ∧ regs ≤ r ∧ fldErr has r regs = 61) ∨ (has = true ∧ 0 ≤ r ∧ r < regs ∧ fldErr has r regs = 0) := by
  cases has
  · by_cases h : r = 0 <;> simp [fldErr, h]
  · by_cases h : r < 0
    · simp [fldErr, h]
    · by_cases h2 : regs ≤ r
      · simp [fldErr, h2]; omega
      · simp [fldErr, h, h2]; omega
theorem fldsErr_stop {p : Row} {x : InsD} {regs : Int} {k n : Nat} (hk : k ≤ n) (h : fldsErr p x regs k ≠ 0) : fldsErr p x regs n = fldsErr p x regs k := by
  induction n with
  | zero => obtain rfl : k = 0 := by omega
            rfl
  | succ n ih =>
    rcases Nat.lt_or_ge n k with h1 | h1
    · obtain rfl : k = n + 1 := by omega
      rfl
    · rw [fldsErr, if_neg (by rw [ih h1]; exact h), ih h1]
theorem fldsErr_next {p : Row} {x : InsD} {regs : Int} {k : Nat} (h : fldsErr p x regs k = 0) : fldsErr p x regs (k + 1) = fldErr (hasK p k) (regK x k) regs := by rw [fldsErr, if_pos h]
theorem insErr_fld {m : ModD} {f : FuncD} {x : InsD} {k : Nat} {e : Int} (hn : known x.op = true) (hk : k < 3) (h : fldsErr (row x.op.toNat) x f.regs k = 0) (he : fldErr (hasK (row x.op.toNat) k) (regK x k) f.regs = e) (h0 : e ≠ 0) : insErr m f x = e := by
  have h1 : fldsErr (row x.op.toNat) x f.regs (k + 1) = e := by rw [fldsErr_next h, he]
  have h2 : fldsErr (row x.op.toNat) x f.regs 3 = e := by rw [fldsErr_stop (k := k + 1) (by omega) (by rw [h1]; exact h0), h1]
  rw [insErr, if_pos hn, if_neg (by rw [h2]; exact h0), h2]
theorem insErr_n {m : ModD} {f : FuncD} {x : InsD} (hn : known x.op = true) (h : fldsErr (row x.op.toNat) x f.regs 3 = 0) : insErr m f x = nErr (row x.op.toNat) m f x := by
  rw [insErr, if_pos hn, if_pos h]
end Go.Proofs.YtjacfeohpofhpaaDoor

/-
  Layer 9 (code): what is wrong with a function as a whole, as plain functions.
-/
namespace Go.Proofs.YtjacfeohpofhpaaDoor
open Go.RowKit
set_option linter.unusedSimpArgs false
set_option linter.unusedVariables false

/-- The first of the next n from number k on that does not meet p; -1, if all do. -/
def badFrom (p : Nat → Bool) : Nat → Nat → Int
  | _, 0 => -1
  | k, n + 1 => if p k = false then (k : Int) else badFrom p (k + 1) n
theorem badFrom_yes {p : Nat → Bool} {k n : Nat} (hk : k < n) (h : p k = false) : badFrom p k (n - k) = k := by
  obtain ⟨j, hj⟩ : ∃ j, n - k = j + 1 := ⟨n - k - 1, by omega⟩
  rw [hj, badFrom, if_pos h]
theorem badFrom_no {p : Nat → Bool} {k n : Nat} (hk : k < n) (h : p k = true) : badFrom p k (n - k) = badFrom p (k + 1) (n - (k + 1)) := by
  obtain ⟨j, hj⟩ : ∃ j, n - k = j + 1 := ⟨n - k - 1, by omega⟩
  rw [hj, badFrom, if_neg (by rw [h]; decide), show n - (k + 1) = j by omega]
def okSp (ps : List Sp) (k : Nat) : Bool := decide ((nthS ps k).lo ≤ (nthS ps k).hi)
def emptyD (ps : List Sp) : Int := badFrom (okSp ps) 0 ps.length
def restErr (f : FuncD) : Int :=
  if f.regs < 1 ∨ 64 < f.regs ∨ f.regs < f.params.length then 95 else if f.words < 0 ∨ 4096 < f.words then 96 else if f.code.length = 0 ∨ 1024 < f.code.length then 97 else 0
def wholeE (m : ModD) (k : Nat) : Int :=
  if isNameB (nthF m.funcs k).name = false then 8 else if findD m.funcs (nthF m.funcs k).name < k then 9 else if 8 < (nthF m.funcs k).params.length then 3 else
  if emptyD (nthF m.funcs k).params ≠ -1 then 40 else restErr (nthF m.funcs k)
def wholeA (m : ModD) (k : Nat) : Int :=
  if isNameB (nthF m.funcs k).name = false then 0 else if findD m.funcs (nthF m.funcs k).name < k then 0 else if 8 < (nthF m.funcs k).params.length then 8 else
  if emptyD (nthF m.funcs k).params ≠ -1 then emptyD (nthF m.funcs k).params else 0
/-- Has none of the first k functions the name? -/
def freshN (fs : List FuncD) (s : ByteArray) (k : Nat) : Bool := !eqN (nthF fs k).name s
theorem find_of_fresh {fs : List FuncD} {s : ByteArray} : ∀ k, k ≤ fs.length → allTo (freshN fs s) k = true → findD fs s = findFrom fs s k (fs.length - k)
  | 0, _, _ => rfl
  | k + 1, hk, h => by
    simp only [allTo, Bool.and_eq_true] at h
    have h2 : eqN (nthF fs k).name s = false := by simpa [freshN] using h.2
    rw [find_of_fresh k (by omega) h.1, findFrom_no (by omega) h2]
theorem findFrom_ge {fs : List FuncD} {s : ByteArray} : ∀ (n k : Nat), (k : Int) ≤ findFrom fs s k n ∨ findFrom fs s k n = -1
  | 0, k => .inr rfl
  | n + 1, k => by
    rw [findFrom]
    split
    · exact .inl (Int.le_refl _)
    · rcases findFrom_ge (fs := fs) (s := s) n (k + 1) with h | h
      · left; omega
      · exact .inr h
theorem findD_self {fs : List FuncD} {k : Nat} (hk : k < fs.length) (h : allTo (freshN fs (nthF fs k).name) k = true) : findD fs (nthF fs k).name = k := by
  rw [find_of_fresh k (by omega) h, findFrom_yes hk (by simp [eqN])]
theorem findD_hit {fs : List FuncD} {s : ByteArray} {k : Nat} (hk : k < fs.length) (h : allTo (freshN fs s) k = true) (h2 : eqN (nthF fs k).name s = true) : findD fs s = k := by
  rw [find_of_fresh k (by omega) h, findFrom_yes hk h2]
end Go.Proofs.YtjacfeohpofhpaaDoor

/-
  Layer 9 (code): what May says, as plain functions.
-/
namespace Go.Proofs.YtjacfeohpofhpaaDoor
open Go.RowKit
set_option linter.unusedSimpArgs false
set_option linter.unusedVariables false

/-- A fault: its number, the function, the place. -/
structure FaultD where
  e : Int
  f : Int
  a : Int
def okRise (ts : List Int) (i : Nat) : Bool := decide (nthI ts (i - 1) < nthI ts i)
def okIns (m : ModD) (k i : Nat) : Bool := insErr m (nthF m.funcs k) (nthX (nthF m.funcs k).code i) == 0
def firstIns (m : ModD) (k : Nat) : Int := badFrom (okIns m k) 0 (nthF m.funcs k).code.length
def lastOp (m : ModD) (k : Nat) : Int := (nthX (nthF m.funcs k).code ((nthF m.funcs k).code.length - 1)).op
def endsOk (op : Int) : Bool := op == 0 || op == 14 || op == 18
def codeE (m : ModD) (k : Nat) : Int := if firstIns m k ≠ -1 then insErr m (nthF m.funcs k) (nthX (nthF m.funcs k).code (firstIns m k).toNat) else if endsOk (lastOp m k) = true then 0 else 64
def codeA (m : ModD) (k : Nat) : Int := if firstIns m k ≠ -1 then firstIns m k else (nthF m.funcs k).code.length - 1
def riseD (m : ModD) : Int := badFrom (okRise m.ths) 1 (m.ths.length - 1)
def okWhole (m : ModD) (k : Nat) : Bool := wholeE m k == 0
def okCode (m : ModD) (k : Nat) : Bool := codeE m k == 0
def wholeD (m : ModD) : Int := badFrom (okWhole m) 0 m.funcs.length
def codeD (m : ModD) : Int := badFrom (okCode m) 0 m.funcs.length
/-- What is wrong first. -/
def mayD (m : ModD) : FaultD :=
  if 16 < m.ths.length then ⟨3, 0, 16⟩ else if riseD m ≠ -1 then ⟨66, 0, riseD m⟩ else if 32 < m.funcs.length then ⟨3, 32, 0⟩ else
  if wholeD m ≠ -1 then ⟨wholeE m (wholeD m).toNat, wholeD m, wholeA m (wholeD m).toNat⟩ else
  if codeD m ≠ -1 then ⟨codeE m (codeD m).toNat, codeD m, codeA m (codeD m).toNat⟩ else ⟨0, 0, 0⟩
theorem mayD_1 {m : ModD} (h : 16 < m.ths.length) : mayD m = ⟨3, 0, 16⟩ := by rw [mayD, if_pos h]
theorem mayD_2 {m : ModD} (h : ¬ 16 < m.ths.length) {i : Nat} (h2 : riseD m = i) : mayD m = ⟨66, 0, i⟩ := by rw [mayD, if_neg h, h2, if_pos (by omega)]
theorem mayD_3 {m : ModD} (h : ¬ 16 < m.ths.length) (h2 : riseD m = -1) (h3 : 32 < m.funcs.length) : mayD m = ⟨3, 32, 0⟩ := by rw [mayD, if_neg h, h2, if_neg (by simp), if_pos h3]
theorem mayD_4 {m : ModD} (h : ¬ 16 < m.ths.length) (h2 : riseD m = -1) (h3 : ¬ 32 < m.funcs.length) {k : Nat} (h4 : wholeD m = k) : mayD m = ⟨wholeE m k, k, wholeA m k⟩ := by
  rw [mayD, if_neg h, h2, if_neg (by simp), if_neg h3, h4, if_pos (by omega)]; rfl
theorem mayD_5 {m : ModD} (h : ¬ 16 < m.ths.length) (h2 : riseD m = -1) (h3 : ¬ 32 < m.funcs.length) (h4 : wholeD m = -1) {k : Nat} (h5 : codeD m = k) : mayD m = ⟨codeE m k, k, codeA m k⟩ := by
  rw [mayD, if_neg h, h2, if_neg (by simp), if_neg h3, h4, if_neg (by simp), h5, if_pos (by omega)]; rfl
theorem mayD_6 {m : ModD} (h : ¬ 16 < m.ths.length) (h2 : riseD m = -1) (h3 : ¬ 32 < m.funcs.length) (h4 : wholeD m = -1) (h5 : codeD m = -1) : mayD m = ⟨0, 0, 0⟩ := by
  rw [mayD, if_neg h, h2, if_neg (by simp), if_neg h3, h4, if_neg (by simp), h5, if_neg (by simp)]
theorem code_ins {m : ModD} {k i : Nat} (h : firstIns m k = i) (h0 : insErr m (nthF m.funcs k) (nthX (nthF m.funcs k).code i) ≠ 0) : codeE m k = insErr m (nthF m.funcs k) (nthX (nthF m.funcs k).code i) ∧ codeA m k = i ∧ okCode m k = false := by
  have e : codeE m k = insErr m (nthF m.funcs k) (nthX (nthF m.funcs k).code i) := by rw [codeE, h, if_pos (by omega)]; rfl
  exact ⟨e, by rw [codeA, h, if_pos (by omega)], by rw [okCode, e]; simpa using h0⟩
theorem code_end {m : ModD} {k : Nat} (h : firstIns m k = -1) (h0 : endsOk (lastOp m k) = false) : codeE m k = 64 ∧ codeA m k = (nthF m.funcs k).code.length - 1 ∧ okCode m k = false := by
  have e : codeE m k = 64 := by rw [codeE, h, if_neg (by simp), if_neg (by rw [h0]; decide)]
  exact ⟨e, by rw [codeA, h, if_neg (by simp)], by rw [okCode, e]; rfl⟩
theorem code_ok {m : ModD} {k : Nat} (h : firstIns m k = -1) (h0 : endsOk (lastOp m k) = true) : okCode m k = true := by
  rw [okCode, codeE, h, if_neg (by simp), if_pos h0]; rfl
theorem badFrom_all {p : Nat → Bool} : ∀ n k, badFrom p k n = -1 → ∀ j, k ≤ j → j < k + n → p j = true
  | 0, k, _, j, h1, h2 => absurd h2 (by omega)
  | n + 1, k, h, j, h1, h2 => by
    rw [badFrom] at h
    split at h
    · omega
    · rename_i hp
      have hp' : p k = true := by simpa using hp
      rcases Nat.eq_or_lt_of_le h1 with rfl | h1
      · exact hp'
      · exact badFrom_all n (k + 1) h j h1 (by omega)
/-- A function of which whole says nothing has an instruction. -/
theorem whole_code {m : ModD} (h : wholeD m = -1) {k : Nat} (hk : k < m.funcs.length) : (nthF m.funcs k).code.length ≠ 0 := fun h0 => by
  have h1 : wholeE m k = 0 := by simpa [okWhole] using badFrom_all _ 0 h k (by omega) (by omega)
  have h2 : restErr (nthF m.funcs k) ≠ 0 := by
    unfold restErr; rw [h0]; split
    · omega
    · split
      · omega
      · simp
  unfold wholeE at h1
  split at h1
  · omega
  · split at h1
    · omega
    · split at h1
      · omega
      · split at h1
        · omega
        · exact h2 h1
end Go.Proofs.YtjacfeohpofhpaaDoor

/-
  Layer 9 (code), what a module that may be is like. No program in sight.
-/
namespace Go.Proofs.YtjacfeohpofhpaaDoor
open Go.RowKit
set_option linter.unusedSimpArgs false
set_option linter.unusedVariables false
theorem badFrom_cases (p : Nat → Bool) (n : Nat) : ∀ k, (badFrom p k n = -1 ∧ ∀ j, k ≤ j → j < k + n → p j = true) ∨ ∃ j : Nat, k ≤ j ∧ j < k + n ∧ badFrom p k n = j ∧ p j = false := by
  induction n with
  | zero => intro k; exact .inl ⟨rfl, fun j h1 h2 => by omega⟩
  | succ n ih =>
    intro k
    cases hk : p k
    · exact .inr ⟨k, Nat.le_refl _, by omega, by simp [badFrom, hk], hk⟩
    · rcases ih (k + 1) with ⟨h1, h2⟩ | ⟨j, h1, h2, h3, h4⟩
      · refine .inl ⟨by simp [badFrom, hk, h1], fun j h3 h4 => ?_⟩
        rcases Nat.eq_or_lt_of_le h3 with rfl | h5
        · exact hk
        · exact h2 j (by omega) (by omega)
      · exact .inr ⟨j, by omega, by omega, by simp [badFrom, hk, h3], h4⟩
theorem findFrom_cases (fs : List FuncD) (s : ByteArray) (n : Nat) : ∀ k, (findFrom fs s k n = -1 ∧ ∀ j, k ≤ j → j < k + n → eqN (nthF fs j).name s = false) ∨ ∃ j : Nat, k ≤ j ∧ j < k + n ∧ findFrom fs s k n = j ∧ eqN (nthF fs j).name s = true ∧ ∀ i, k ≤ i → i < j → eqN (nthF fs i).name s = false := by
  induction n with
  | zero => intro k; exact .inl ⟨rfl, fun j h1 h2 => by omega⟩
  | succ n ih =>
    intro k
    cases hk : eqN (nthF fs k).name s
    · rcases ih (k + 1) with ⟨h1, h2⟩ | ⟨j, h1, h2, h3, h4, h5⟩
      · refine .inl ⟨by simp only [findFrom, hk]; simpa using h1, fun j h3 h4 => ?_⟩
        rcases Nat.eq_or_lt_of_le h3 with rfl | h5
        · exact hk
        · exact h2 j (by omega) (by omega)
      · refine .inr ⟨j, by omega, by omega, by simp only [findFrom, hk]; simpa using h3, h4, fun i h6 h7 => ?_⟩
        rcases Nat.eq_or_lt_of_le h6 with rfl | h8
        · exact hk
        · exact h5 i (by omega) h7
    · exact .inr ⟨k, Nat.le_refl _, by omega, by simp only [findFrom, hk, if_true], hk, fun i h1 h2 => by omega⟩
theorem may_all {m : ModD} (h : mayD m = ⟨0, 0, 0⟩) : ∀ i, i < m.funcs.length → wholeE m i = 0 ∧ codeE m i = 0 := by
  unfold mayD at h
  split at h
  · simp at h
  split at h
  · simp at h
  split at h
  · simp at h
  rcases badFrom_cases (okWhole m) m.funcs.length 0 with ⟨a1, a2⟩ | ⟨j, b1, b2, b3, b4⟩
  · rw [if_neg (by show ¬ wholeD m ≠ -1; unfold wholeD; rw [a1]; simp)] at h
    rcases badFrom_cases (okCode m) m.funcs.length 0 with ⟨c1, c2⟩ | ⟨j, b1, b2, b3, b4⟩
    · intro i hi
      have h1 := a2 i (Nat.zero_le _) (by omega)
      have h2 := c2 i (Nat.zero_le _) (by omega)
      exact ⟨by simpa [okWhole] using h1, by simpa [okCode] using h2⟩
    · have hd : codeD m = j := b3
      rw [if_pos (by rw [hd]; omega), hd] at h
      simp only [FaultD.mk.injEq, Int.toNat_natCast] at h
      simp [okCode, h.1] at b4
  · have hd : wholeD m = j := b3
    rw [if_pos (by rw [hd]; omega), hd] at h
    simp only [FaultD.mk.injEq, Int.toNat_natCast] at h
    simp [okWhole, h.1] at b4
/-- What a function of a module that may be is like. -/
structure FOk (m : ModD) (i : Nat) : Prop where
  find : findD m.funcs (nthF m.funcs i).name = i
  few : (nthF m.funcs i).params.length ≤ 8
  regs : 1 ≤ (nthF m.funcs i).regs ∧ (nthF m.funcs i).regs ≤ 64 ∧ ((nthF m.funcs i).params.length : Int) ≤ (nthF m.funcs i).regs
  ins : ∀ k, k < (nthF m.funcs i).code.length → insErr m (nthF m.funcs i) (nthX (nthF m.funcs i).code k) = 0
  last : endsOk (lastOp m i) = true
theorem f_ok {m : ModD} (h : mayD m = ⟨0, 0, 0⟩) {i : Nat} (hi : i < m.funcs.length) : FOk m i := by
  obtain ⟨hw, hc⟩ := may_all h i hi
  unfold wholeE at hw
  split at hw
  · simp at hw
  split at hw
  · simp at hw
  rename_i hnf
  split at hw
  · simp at hw
  rename_i hfew
  split at hw
  · simp at hw
  unfold restErr at hw
  split at hw
  · simp at hw
  rename_i hreg
  unfold codeE at hc
  refine ⟨?_, by omega, by omega, ?_, ?_⟩
  · rcases findFrom_cases m.funcs (nthF m.funcs i).name m.funcs.length 0 with ⟨a1, a2⟩ | ⟨j, b1, b2, b3, b4, b5⟩
    · have := a2 i (Nat.zero_le _) (by omega)
      simp [eqN] at this
    · have hd : findD m.funcs (nthF m.funcs i).name = j := b3
      rw [hd] at hnf ⊢
      rcases Nat.lt_or_ge i j with q | q
      · have := b5 i (Nat.zero_le _) q
        simp [eqN] at this
      · omega
  · rcases badFrom_cases (okIns m i) (nthF m.funcs i).code.length 0 with ⟨a1, a2⟩ | ⟨j, b1, b2, b3, b4⟩
    · intro k hk
      have := a2 k (Nat.zero_le _) (by omega)
      simpa [okIns] using this
    · have hd : firstIns m i = j := b3
      rw [if_pos (by rw [hd]; omega), hd, Int.toNat_natCast] at hc
      simp [okIns, hc] at b4
  · rcases badFrom_cases (okIns m i) (nthF m.funcs i).code.length 0 with ⟨a1, a2⟩ | ⟨j, b1, b2, b3, b4⟩
    · have hd : firstIns m i = -1 := a1
      rw [if_neg (by rw [hd]; simp)] at hc
      split at hc
      · assumption
      · simp at hc
    · have hd : firstIns m i = j := b3
      rw [if_pos (by rw [hd]; omega), hd, Int.toNat_natCast] at hc
      simp [okIns, hc] at b4
/-- What an instruction of a module that may be is like. -/
structure IOk (m : ModD) (f : FuncD) (x : InsD) : Prop where
  known : known x.op = true
  a : (row x.op.toNat).a = true → 0 ≤ x.a ∧ x.a < f.regs
  b : (row x.op.toNat).b = true → 0 ≤ x.b ∧ x.b < f.regs
  c : (row x.op.toNat).c = true → 0 ≤ x.c ∧ x.c < f.regs
  n : nErr (row x.op.toNat) m f x = 0
theorem fld_ok {has : Bool} {r regs : Int} (h : fldErr has r regs = 0) : has = true → 0 ≤ r ∧ r < regs := fun hh => by
  unfold fldErr at h
  rw [if_pos hh] at h
  split at h
  · simp at h
  · omega
theorem i_ok {m : ModD} {f : FuncD} {x : InsD} (h : insErr m f x = 0) : IOk m f x := by
  unfold insErr at h
  split at h
  · rename_i hk
    split at h
    · rename_i h3
      have e3 : fldsErr (row x.op.toNat) x f.regs 2 = 0 := by
        by_cases q : fldsErr (row x.op.toNat) x f.regs 2 = 0
        · exact q
        · simp only [fldsErr] at h3 q; rw [if_neg q] at h3; exact absurd h3 q
      have e2 : fldsErr (row x.op.toNat) x f.regs 1 = 0 := by
        by_cases q : fldsErr (row x.op.toNat) x f.regs 1 = 0
        · exact q
        · simp only [fldsErr] at e3 q; rw [if_neg q] at e3; exact absurd e3 q
      have g2 : fldErr (row x.op.toNat).c x.c f.regs = 0 := by
        have : fldsErr (row x.op.toNat) x f.regs 3 = fldErr (row x.op.toNat).c x.c f.regs := by rw [fldsErr, if_pos e3]; rfl
        rw [← this]; exact h3
      have g1 : fldErr (row x.op.toNat).b x.b f.regs = 0 := by
        have : fldsErr (row x.op.toNat) x f.regs 2 = fldErr (row x.op.toNat).b x.b f.regs := by rw [fldsErr, if_pos e2]; rfl
        rw [← this]; exact e3
      have g0 : fldErr (row x.op.toNat).a x.a f.regs = 0 := e2
      exact ⟨hk, fld_ok g0, fld_ok g1, fld_ok g2, h⟩
    · rename_i h3; exact absurd h h3
  · simp at h
theorem row_kinds : ∀ k, k < 20 → ((row k).wr = true → (row k).a = true) ∧ ((row k).n = 4 ↔ k = 19) ∧ (14 ≤ k → k ≤ 18 → (row k).n = 2) := by decide
/-- So many parameters has the function that is called. -/
def calledN (m : ModD) (x : InsD) : Int := if x.op = 19 then ((nthF m.funcs x.n.toNat).params.length : Int) else 0
end Go.Proofs.YtjacfeohpofhpaaDoor
