/-
  Layer 9 (code): what May says, as plain functions.
-/
import Derived.Test.YtpmffclepnkedaaDoorPlainV
namespace Go.Proofs.YtpmffclepnkedaaDoor
open Go.RowKit
set_option linter.unusedSimpArgs false
set_option linter.unusedVariables false

/-- A fault: its number, the function, the place. -/
structure FaultD where
  e : Int
  f : Int
  a : Int
def okRise (ts : List Int) (i : Nat) : Bool := decide (nthI ts (i - 1) < nthI ts i)
def okIns (m : ModD) (k i : Nat) : Bool := insErr m (nthF m.funcs k) (nthX (nthF m.funcs k).code i) == 0
def firstIns (m : ModD) (k : Nat) : Int := badFrom (okIns m k) 0 (nthF m.funcs k).code.length
def lastOp (m : ModD) (k : Nat) : Int := (nthX (nthF m.funcs k).code ((nthF m.funcs k).code.length - 1)).op
def endsOk (op : Int) : Bool := op == 0 || op == 14 || op == 18
def codeE (m : ModD) (k : Nat) : Int := if firstIns m k ≠ -1 then insErr m (nthF m.funcs k) (nthX (nthF m.funcs k).code (firstIns m k).toNat) else if endsOk (lastOp m k) = true then 0 else 64
def codeA (m : ModD) (k : Nat) : Int := if firstIns m k ≠ -1 then firstIns m k else (nthF m.funcs k).code.length - 1
def riseD (m : ModD) : Int := badFrom (okRise m.ths) 1 (m.ths.length - 1)
def okWhole (m : ModD) (k : Nat) : Bool := wholeE m k == 0
def okCode (m : ModD) (k : Nat) : Bool := codeE m k == 0
def wholeD (m : ModD) : Int := badFrom (okWhole m) 0 m.funcs.length
def codeD (m : ModD) : Int := badFrom (okCode m) 0 m.funcs.length
/-- What is wrong first. -/
def mayD (m : ModD) : FaultD :=
  if 16 < m.ths.length then ⟨3, 0, 16⟩ else if riseD m ≠ -1 then ⟨66, 0, riseD m⟩ else if 32 < m.funcs.length then ⟨3, 32, 0⟩ else
  if wholeD m ≠ -1 then ⟨wholeE m (wholeD m).toNat, wholeD m, wholeA m (wholeD m).toNat⟩ else
  if codeD m ≠ -1 then ⟨codeE m (codeD m).toNat, codeD m, codeA m (codeD m).toNat⟩ else ⟨0, 0, 0⟩
theorem mayD_1 {m : ModD} (h : 16 < m.ths.length) : mayD m = ⟨3, 0, 16⟩ := by rw [mayD, if_pos h]
theorem mayD_2 {m : ModD} (h : ¬ 16 < m.ths.length) {i : Nat} (h2 : riseD m = i) : mayD m = ⟨66, 0, i⟩ := by rw [mayD, if_neg h, h2, if_pos (by omega)]
theorem mayD_3 {m : ModD} (h : ¬ 16 < m.ths.length) (h2 : riseD m = -1) (h3 : 32 < m.funcs.length) : mayD m = ⟨3, 32, 0⟩ := by rw [mayD, if_neg h, h2, if_neg (by simp), if_pos h3]
theorem mayD_4 {m : ModD} (h : ¬ 16 < m.ths.length) (h2 : riseD m = -1) (h3 : ¬ 32 < m.funcs.length) {k : Nat} (h4 : wholeD m = k) : mayD m = ⟨wholeE m k, k, wholeA m k⟩ := by
  rw [mayD, if_neg h, h2, if_neg (by simp), if_neg h3, h4, if_pos (by omega)]; rfl
theorem mayD_5 {m : ModD} (h : ¬ 16 < m.ths.length) (h2 : riseD m = -1) (h3 : ¬ 32 < m.funcs.length) (h4 : wholeD m = -1) {k : Nat} (h5 : codeD m = k) : mayD m = ⟨codeE m k, k, codeA m k⟩ := by
  rw [mayD, if_neg h, h2, if_neg (by simp), if_neg h3, h4, if_neg (by simp), h5, if_pos (by omega)]; rfl
theorem mayD_6 {m : ModD} (h : ¬ 16 < m.ths.length) (h2 : riseD m = -1) (h3 : ¬ 32 < m.funcs.length) (h4 : wholeD m = -1) (h5 : codeD m = -1) : mayD m = ⟨0, 0, 0⟩ := by
  rw [mayD, if_neg h, h2, if_neg (by simp), if_neg h3, h4, if_neg (by simp), h5, if_neg (by simp)]
theorem code_ins {m : ModD} {k i : Nat} (h : firstIns m k = i) (h0 : insErr m (nthF m.funcs k) (nthX (nthF m.funcs k).code i) ≠ 0) : codeE m k = insErr m (nthF m.funcs k) (nthX (nthF m.funcs k).code i) ∧ codeA m k = i ∧ okCode m k = false := by
  have e : codeE m k = insErr m (nthF m.funcs k) (nthX (nthF m.funcs k).code i) := by rw [codeE, h, if_pos (by omega)]; rfl
  exact ⟨e, by rw [codeA, h, if_pos (by omega)], by rw [okCode, e]; simpa using h0⟩
theorem code_end {m : ModD} {k : Nat} (h : firstIns m k = -1) (h0 : endsOk (lastOp m k) = false) : codeE m k = 64 ∧ codeA m k = (nthF m.funcs k).code.length - 1 ∧ okCode m k = false := by
  have e : codeE m k = 64 := by rw [codeE, h, if_neg (by simp), if_neg (by rw [h0]; decide)]
  exact ⟨e, by rw [codeA, h, if_neg (by simp)], by rw [okCode, e]; rfl⟩
theorem code_ok {m : ModD} {k : Nat} (h : firstIns m k = -1) (h0 : endsOk (lastOp m k) = true) : okCode m k = true := by
  rw [okCode, codeE, h, if_neg (by simp), if_pos h0]; rfl
theorem badFrom_all {p : Nat → Bool} : ∀ n k, badFrom p k n = -1 → ∀ j, k ≤ j → j < k + n → p j = true
  | 0, k, _, j, h1, h2 => absurd h2 (by omega)
  | n + 1, k, h, j, h1, h2 => by
    rw [badFrom] at h
    split at h
    · omega
    · rename_i hp
      have hp' : p k = true := by simpa using hp
      rcases Nat.eq_or_lt_of_le h1 with rfl | h1
      · exact hp'
      · exact badFrom_all n (k + 1) h j h1 (by omega)
/-- A function of which whole says nothing has an instruction. -/
theorem whole_code {m : ModD} (h : wholeD m = -1) {k : Nat} (hk : k < m.funcs.length) : (nthF m.funcs k).code.length ≠ 0 := fun h0 => by
  have h1 : wholeE m k = 0 := by simpa [okWhole] using badFrom_all _ 0 h k (by omega) (by omega)
  have h2 : restErr (nthF m.funcs k) ≠ 0 := by
    unfold restErr; rw [h0]; split
    · omega
    · split
      · omega
      · simp
  unfold wholeE at h1
  split at h1
  · omega
  · split at h1
    · omega
    · split at h1
      · omega
      · split at h1
        · omega
        · exact h2 h1
end Go.Proofs.YtpmffclepnkedaaDoor
