/-
  Layer 11 (pack): a module's bytes, in plain Lean.
-/
import Derived.Test.YtjacfeohpofhpaaDoorBytes
import Derived.Test.YtjacfeohpofhpaaDoorPlainL
namespace Go.Proofs.YtjacfeohpofhpaaDoor
open Go.RowKit
set_option linter.unusedSimpArgs false
set_option linter.unusedVariables false
/-- What the lengths of a module that may be are like. -/
structure Small (m : ModD) : Prop where
  ths : m.ths.length ≤ 16
  funcs : m.funcs.length ≤ 32
  name : ∀ k, k < m.funcs.length → (nthF m.funcs k).name.size ≤ 16
  params : ∀ k, k < m.funcs.length → (nthF m.funcs k).params.length ≤ 8
  code : ∀ k, k < m.funcs.length → (nthF m.funcs k).code.length ≤ 1024
theorem small_of {m : ModD} (h : mayD m = ⟨0, 0, 0⟩) : Small m := by
  have hth : m.ths.length ≤ 16 := by
    unfold mayD at h
    split at h
    · simp at h
    · omega
  have hfn : m.funcs.length ≤ 32 := by
    unfold mayD at h
    split at h
    · simp at h
    split at h
    · simp at h
    split at h
    · simp at h
    · omega
  have hw := fun k hk => (may_all h k hk).1
  refine ⟨hth, hfn, fun k hk => ?_, fun k hk => (f_ok h hk).few, fun k hk => ?_⟩
  · have := hw k hk
    unfold wholeE at this
    split at this
    · simp at this
    · rename_i hn
      simp only [Bool.not_eq_false] at hn
      simp only [isNameB, Bool.and_eq_true, decide_eq_true_eq] at hn
      omega
  · have := hw k hk
    unfold wholeE restErr at this
    repeat' split at this
    all_goals first | (simp at this; done) | omega
def encT (m : ModD) : Nat → List UInt8
  | 0 => [83, 70, 84, 1, byteB m.ths.length]
  | k + 1 => encT m k ++ encNum (nthI m.ths k) 8
def encSp (s : Sp) : List UInt8 := encNum s.lo 8 ++ encNum s.hi 8
def encX (x : InsD) : List UInt8 := [byteB x.op, byteB x.a, byteB x.b, byteB x.c] ++ encNum x.n 8
def encPs (f : FuncD) : Nat → List UInt8
  | 0 => []
  | k + 1 => encPs f k ++ encSp (nthS f.params k)
def encC (f : FuncD) : Nat → List UInt8
  | 0 => []
  | k + 1 => encC f k ++ encX (nthX f.code k)
def headF (f : FuncD) : List UInt8 := [byteB f.name.size] ++ f.name.data.toList ++ [byteB f.params.length]
def midF (f : FuncD) : List UInt8 := [byteB f.regs] ++ encNum f.words 2 ++ encNum f.code.length 2
def encF (f : FuncD) : List UInt8 := headF f ++ encPs f f.params.length ++ midF f ++ encC f f.code.length
def encFs (m : ModD) : Nat → List UInt8
  | 0 => encT m m.ths.length ++ [byteB m.funcs.length]
  | k + 1 => encFs m k ++ encF (nthF m.funcs k)
/-- A module's bytes. -/
def encM (m : ModD) : List UInt8 := encFs m m.funcs.length
theorem encT_len (m : ModD) (k : Nat) : (encT m k).length = 5 + 8 * k := by
  induction k with
  | zero => rfl
  | succ k ih => rw [encT, List.length_append, ih, encNum_len]; omega
theorem encSp_len (s : Sp) : (encSp s).length = 16 := by simp [encSp, encNum_len]
theorem encX_len (x : InsD) : (encX x).length = 12 := by simp [encX, encNum_len]
theorem encPs_len (f : FuncD) (k : Nat) : (encPs f k).length = 16 * k := by
  induction k with
  | zero => rfl
  | succ k ih => rw [encPs, List.length_append, ih, encSp_len]; omega
theorem encC_len (f : FuncD) (k : Nat) : (encC f k).length = 12 * k := by
  induction k with
  | zero => rfl
  | succ k ih => rw [encC, List.length_append, ih, encX_len]; omega
theorem headF_len (f : FuncD) : (headF f).length = 2 + f.name.size := by
  have : f.name.data.toList.length = f.name.size := rfl
  simp only [headF, List.length_append, this, List.length_cons, List.length_nil]; omega
theorem midF_len (f : FuncD) : (midF f).length = 5 := by simp [midF, encNum_len]
theorem encF_len (f : FuncD) : (encF f).length = 7 + f.name.size + 16 * f.params.length + 12 * f.code.length := by
  rw [encF, List.length_append, List.length_append, List.length_append, headF_len, encPs_len, midF_len, encC_len]; omega
theorem encFs_len {m : ModD} (h : Small m) : ∀ k, k ≤ m.funcs.length → (encFs m k).length ≤ 134 + 12439 * k := by
  intro k
  induction k with
  | zero => intro _; rw [encFs, List.length_append, encT_len]; have := h.ths; simp; omega
  | succ k ih =>
    intro hk
    have := ih (by omega)
    have h1 := h.name k hk
    have h2 := h.params k hk
    have h3 := h.code k hk
    rw [encFs, List.length_append, encF_len]; omega
end Go.Proofs.YtjacfeohpofhpaaDoor
