/-
  Layer 9 (code): modules that are the same but for where they lie: the plain laws do not tell them apart. No program in sight.
-/
import Derived.Test.YtjacfeohpofhpaaDoorPlainL
import Derived.Test.YtjacfeohpofhpaaDoorSameP
namespace Go.Proofs.YtjacfeohpofhpaaDoor
open Go.RowKit
set_option linter.unusedSimpArgs false
set_option linter.unusedVariables false
/-- A function without its addresses. -/
def bare (f : FuncD) : FuncD := ⟨f.name, none, 0, f.params, f.regs, f.words, none, 0, f.code⟩
structure SameM (m m' : ModD) : Prop where
  ths : m'.ths = m.ths
  len : m'.funcs.length = m.funcs.length
  each : ∀ k, bare (nthF m'.funcs k) = bare (nthF m.funcs k)
theorem bare_name {f g : FuncD} (h : bare f = bare g) : f.name = g.name := (congrArg FuncD.name h : (bare f).name = (bare g).name)
theorem bare_params {f g : FuncD} (h : bare f = bare g) : f.params = g.params := (congrArg FuncD.params h : (bare f).params = (bare g).params)
theorem bare_regs {f g : FuncD} (h : bare f = bare g) : f.regs = g.regs := (congrArg FuncD.regs h : (bare f).regs = (bare g).regs)
theorem bare_words {f g : FuncD} (h : bare f = bare g) : f.words = g.words := (congrArg FuncD.words h : (bare f).words = (bare g).words)
theorem bare_code {f g : FuncD} (h : bare f = bare g) : f.code = g.code := (congrArg FuncD.code h : (bare f).code = (bare g).code)
theorem findFrom_same {m m' : ModD} (h : SameM m m') (s : ByteArray) (n : Nat) : ∀ k, findFrom m'.funcs s k n = findFrom m.funcs s k n := by
  induction n with
  | zero => intro k; rfl
  | succ n ih => intro k; simp only [findFrom, bare_name (h.each k), ih]
theorem findD_same {m m' : ModD} (h : SameM m m') (s : ByteArray) : findD m'.funcs s = findD m.funcs s := by
  unfold findD; rw [findFrom_same h, h.len]
theorem insErr_same {m m' : ModD} (h : SameM m m') (k : Nat) (x : InsD) : insErr m' (nthF m'.funcs k) x = insErr m (nthF m.funcs k) x := by
  simp only [insErr, nErr, bare_regs (h.each k), bare_code (h.each k), h.len, bare_params (h.each _)]
theorem wholeE_same {m m' : ModD} (h : SameM m m') (k : Nat) : wholeE m' k = wholeE m k := by
  simp only [wholeE, restErr, bare_name (h.each k), findD_same h, bare_params (h.each k), bare_regs (h.each k), bare_words (h.each k), bare_code (h.each k)]
theorem wholeA_same {m m' : ModD} (h : SameM m m') (k : Nat) : wholeA m' k = wholeA m k := by
  simp only [wholeA, bare_name (h.each k), findD_same h, bare_params (h.each k)]
theorem firstIns_same {m m' : ModD} (h : SameM m m') (k : Nat) : firstIns m' k = firstIns m k := by
  have : okIns m' k = okIns m k := funext fun i => by simp only [okIns, insErr_same h, bare_code (h.each k)]
  simp only [firstIns, this, bare_code (h.each k)]
theorem codeE_same {m m' : ModD} (h : SameM m m') (k : Nat) : codeE m' k = codeE m k := by
  have e : lastOp m' k = lastOp m k := by simp only [lastOp, bare_code (h.each k)]
  unfold codeE
  rw [firstIns_same h, insErr_same h, bare_code (h.each k), e]
theorem codeA_same {m m' : ModD} (h : SameM m m') (k : Nat) : codeA m' k = codeA m k := by
  simp only [codeA, firstIns_same h, bare_code (h.each k)]
theorem mayD_same {m m' : ModD} (h : SameM m m') : mayD m' = mayD m := by
  have e1 : wholeD m' = wholeD m := by
    have : okWhole m' = okWhole m := funext fun k => by simp only [okWhole, wholeE_same h]
    simp only [wholeD, this, h.len]
  have e2 : codeD m' = codeD m := by
    have : okCode m' = okCode m := funext fun k => by simp only [okCode, codeE_same h]
    simp only [codeD, this, h.len]
  have e3 : riseD m' = riseD m := by simp only [riseD, h.ths]
  unfold mayD
  rw [e1, e2, e3, h.ths, h.len, wholeE_same h, wholeA_same h, codeE_same h, codeA_same h]
theorem sameD_right {a m m' : ModD} (h : SameM m m') : sameD a m' = sameD a m := by
  have : sameFs a.funcs m'.funcs = sameFs a.funcs m.funcs := funext fun k => by
    simp only [sameFs, sameF, bare_name (h.each k), bare_params (h.each k), bare_regs (h.each k), bare_words (h.each k), bare_code (h.each k)]
  simp only [sameD, h.ths, h.len, this]
theorem sameD_left {a m m' : ModD} (h : SameM m m') : sameD m' a = sameD m a := by
  have : sameFs m'.funcs a.funcs = sameFs m.funcs a.funcs := funext fun k => by
    simp only [sameFs, sameF, bare_name (h.each k), bare_params (h.each k), bare_regs (h.each k), bare_words (h.each k), bare_code (h.each k)]
  simp only [sameD, h.ths, h.len, this]
theorem allTo_iff {p : Nat → Bool} {n : Nat} : allTo p n = true ↔ ∀ k, k < n → p k = true := by
  induction n with
  | zero => simp [allTo]
  | succ n ih =>
    simp only [allTo, Bool.and_eq_true, ih]
    constructor
    · rintro ⟨h1, h2⟩ k hk
      rcases Nat.lt_or_ge k n with q | q
      · exact h1 k q
      · obtain rfl : k = n := by omega
        exact h2
    · exact fun h => ⟨fun k hk => h k (by omega), h n (by omega)⟩
theorem eqTo_iff {n m : Nat} {p : Nat → Bool} : eqTo n m p = true ↔ n = m ∧ ∀ k, k < n → p k = true := by
  simp only [eqTo, Bool.and_eq_true, decide_eq_true_eq, allTo_iff]
theorem eqTo_self {n : Nat} {p : Nat → Bool} (h : ∀ k, p k = true) : eqTo n n p = true := eqTo_iff.2 ⟨rfl, fun k _ => h k⟩
theorem eqTo_swap {n m : Nat} {p q : Nat → Bool} (h : ∀ k, p k = q k) : eqTo n m p = eqTo m n q := by
  rw [Bool.eq_iff_iff, eqTo_iff, eqTo_iff]
  constructor
  · rintro ⟨rfl, h2⟩; exact ⟨rfl, fun k hk => (h k) ▸ h2 k hk⟩
  · rintro ⟨rfl, h2⟩; exact ⟨rfl, fun k hk => (h k).symm ▸ h2 k hk⟩
theorem sameD_self (m : ModD) : sameD m m = true := by
  simp only [sameD, Bool.and_eq_true]
  refine ⟨eqTo_self fun k => by simp [sameI], eqTo_self fun k => ?_⟩
  simp only [sameFs, sameF, Bool.and_eq_true]
  exact ⟨by simp [eqN], by simp, by simp, eqTo_self fun k => by simp [sameS], eqTo_self fun k => by simp [sameX]⟩
theorem beqc {α : Type} [BEq α] [LawfulBEq α] (x y : α) : (x == y) = (y == x) := BEq.comm
theorem sameI_swap (x y : List Int) (k : Nat) : sameI x y k = sameI y x k := by simp only [sameI]; exact beqc _ _
theorem sameS_swap (x y : List Sp) (k : Nat) : sameS x y k = sameS y x k := by
  simp only [sameS]; rw [beqc (nthS x k).lo, beqc (nthS x k).hi]
theorem sameX_swap (x y : List InsD) (k : Nat) : sameX x y k = sameX y x k := by
  simp only [sameX]; rw [beqc (nthX x k).op, beqc (nthX x k).a, beqc (nthX x k).b, beqc (nthX x k).c, beqc (nthX x k).n]
theorem sameF_swap (f g : FuncD) : sameF f g = sameF g f := by
  simp only [sameF, eqN]
  rw [beqc f.name.toList, beqc f.regs, beqc f.words, eqTo_swap (sameS_swap f.params g.params), eqTo_swap (sameX_swap f.code g.code)]
theorem sameFs_swap (x y : List FuncD) (k : Nat) : sameFs x y k = sameFs y x k := sameF_swap _ _
theorem sameD_swap (a b : ModD) : sameD a b = sameD b a := by
  simp only [sameD]
  rw [eqTo_swap (sameI_swap a.ths b.ths), eqTo_swap (sameFs_swap a.funcs b.funcs)]
end Go.Proofs.YtjacfeohpofhpaaDoor
