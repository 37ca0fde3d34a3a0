/-
  Layer 2 (tree): what an expression is like that has a form; how long its text is. In plain Lean.
-/
import Derived.Test.YtdddppmfeoebgaaDoorChkP
import Derived.Test.YtdddppmfeoebgaaDoorKind
import Derived.Lib.ItoaLen
namespace Go.Proofs.YtdddppmfeoebgaaDoor
open Go.RowKit
set_option linter.unusedSimpArgs false
set_option linter.unusedVariables false
/-- An expression that has a form. -/
inductive GoodE : ExD → Prop where
  | mk {x : ExD} (form : formE x = true) (name : x.name.size ≤ 16) (n0 : 0 ≤ x.n) (n1 : x.n ≤ 9223372036854775807) (kids : ∀ k, k < x.args.length → GoodE (nthE x.args k)) : GoodE x
theorem GoodE.form {x : ExD} : GoodE x → formE x = true | .mk h _ _ _ _ => h
theorem GoodE.name {x : ExD} : GoodE x → x.name.size ≤ 16 | .mk _ h _ _ _ => h
theorem GoodE.n0 {x : ExD} : GoodE x → 0 ≤ x.n | .mk _ _ h _ _ => h
theorem GoodE.n1 {x : ExD} : GoodE x → x.n ≤ 9223372036854775807 | .mk _ _ _ h _ => h
theorem GoodE.kids {x : ExD} : GoodE x → ∀ k, k < x.args.length → GoodE (nthE x.args k) | .mk _ _ _ _ h => h
theorem nameB_len {L : List UInt8} (h : nameB L = true) : L.length ≤ 16 := by
  simp only [nameB, Bool.and_eq_true, decide_eq_true_eq] at h
  omega
theorem nameE_len {s : ByteArray} (h : nameE s = true) : s.size ≤ 16 := nameB_len h
theorem own_zero {x : ExD} {lv : Nat} (h : ownE x lv = 0) : lv ≤ 32 ∧ formE x = true ∧ (namedD x.kind = true → nameE x.name = true) ∧ 0 ≤ x.n := by
  unfold ownE at h
  split at h
  · omega
  split at h
  · omega
  split at h
  · omega
  split at h
  · omega
  rename_i h1 h2 h3 h4
  refine ⟨by omega, by simpa using h2, fun h => ?_, by omega⟩
  rw [h] at h3
  simpa using h3
theorem kid_zero {l : List ExD} {lv : Nat} (h : chkEs l lv = 0) {k : Nat} (hk : k < l.length) : chkE (nthE l k) lv = 0 := by
  have h1 : chkEs (l.take (k + 1)) lv = 0 := by
    by_cases q : chkEs (l.take (k + 1)) lv = 0
    · exact q
    · have := chkEs_stop (l := l) (k := k + 1) q; omega
  rw [chkEs_snoc hk, orI] at h1
  split at h1
  · contradiction
  · exact h1
theorem chkE_zero {x : ExD} {lv : Nat} (h : chkE x lv = 0) : ownE x lv = 0 ∧ chkEs x.args (lv + 1) = 0 := by
  rw [chkE_eq, orI] at h
  split at h
  · contradiction
  · rename_i q; exact ⟨by simpa using q, h⟩
theorem good_one {x : ExD} {lv : Nat} (wf : ExWf x) (h : chkE x lv = 0) (kids : ∀ k, k < x.args.length → GoodE (nthE x.args k)) : GoodE x := by
  obtain ⟨_, f, n, g⟩ := own_zero (chkE_zero h).1
  refine .mk f ?_ g (by have := wf.n.2; omega) kids
  cases hn : namedD x.kind
  · simp only [formE, hn, Bool.or_false, Bool.and_eq_true, beq_iff_eq] at f
    omega
  · exact nameE_len (n hn)
theorem good_all {w : World} {B : Nat} {A : Option Addr} {l : List ExD} (h : ExsAt w B A l) : ∀ lv, chkEs l lv = 0 → ∀ k, k < l.length → GoodE (nthE l k) := by
  induction h with
  | mk hd len rows wf kids ih =>
    intro lv hz k hk
    have h0 := kid_zero hz hk
    exact good_one (wf k hk) h0 (ih k hk (lv + 1) (chkE_zero h0).2)
theorem good_x {w : World} {B : Nat} {A : Option Addr} {x : ExD} {lv : Nat} (wf : ExWf x) (h : ExsAt w B A x.args) (hz : chkE x lv = 0) : GoodE x := good_one wf hz (good_all h (lv + 1) (chkE_zero hz).2)
/-! ### How long a text is -/
theorem numD_len {n : Int} (h : In64 n) : (numD n).length ≤ 20 := by
  unfold numD Lib.itoa
  have h1 := h.1
  have h2 := h.2
  have k : ∀ u, u ≤ 9223372036854775808 → (Lib.decDigits u).length ≤ 19 := fun u hu => by
    rw [Lib.decDigits_length]
    rcases Nat.eq_zero_or_pos u with rfl | h1
    · rw [Lib.nDigits_small (by omega)]; omega
    · have := Lib.nDigits_unique
      rcases Nat.lt_or_ge u 10 with q | q
      · rw [Lib.nDigits_small q]; omega
      · by_cases q2 : 10 ^ 18 ≤ u
        · rw [Lib.nDigits_unique 18 u q2 (by omega)]; exact Nat.le_refl _
        · have : ∀ m, u < 10 ^ m → 1 ≤ m → Lib.nDigits u ≤ m := by
            intro m
            induction m with
            | zero => intro _ h; omega
            | succ m ih =>
              intro hm _
              rcases Nat.eq_zero_or_pos m with rfl | hp
              · rw [Lib.nDigits_small (by simpa using hm)]; omega
              · by_cases q3 : u < 10 ^ m
                · have := ih q3 hp; omega
                · rw [Lib.nDigits_unique m u (by omega) hm]; omega
          exact Nat.le_trans (this 18 (by omega) (by omega)) (by omega)
  split
  · rw [List.length_cons]; have := k n.natAbs (by omega); omega
  · have := k n.toNat (by omega); omega
theorem bytes_len' (s : ByteArray) : (bytesOf' s).length = s.size := rfl
theorem parT_len (b : Bool) (t : List UInt8) : (parT b t).length ≤ t.length + 2 := by
  unfold parT; split
  · simp
  · omega
theorem signT_len (k : Int) : (signT k).length ≤ 2 := by
  unfold signT
  split
  · rename_i h
    rcases (by omega : k = 7 ∨ k = 8 ∨ k = 9 ∨ k = 10 ∨ k = 11 ∨ k = 12 ∨ k = 13 ∨ k = 14 ∨ k = 15 ∨ k = 16 ∨ k = 17 ∨ k = 18 ∨ k = 19) with rfl | rfl | rfl | rfl | rfl | rfl | rfl | rfl | rfl | rfl | rfl | rfl | rfl <;> decide
  · simp
def sumT : List (List UInt8) → Nat
  | [] => 0
  | a :: r => a.length + 2 + sumT r
theorem joinT_len : ∀ l : List (List UInt8), (joinT l).length ≤ sumT l
  | [] => by simp [joinT]
  | [a] => by simp [joinT, sumT]
  | a :: b :: r => by
    have := joinT_len (b :: r)
    rw [joinT, sumT]
    simp only [List.length_append, List.length_cons] at *
    omega
theorem exT_eq (x : ExD) : exT x = exT0 x.kind x.n (bytesOf' x.name) x.args (exTs x.args) := by cases x; rw [exT]; rfl
theorem sumT_ex : ∀ (l : List ExD), (∀ k, k < l.length → (exT (nthE l k)).length + 4 ≤ 64 * cntE (nthE l k)) → sumT (exTs l) ≤ 64 * cntEs l
  | [], _ => by rw [exTs]; simp [sumT]
  | x :: r, h => by
    have h0 : (exT x).length + 4 ≤ 64 * cntE x := h 0 (by simp)
    have := sumT_ex r fun k hk => h (k + 1) (by simpa using hk)
    rw [exTs, sumT, cntEs]; omega
theorem cnt_mem : ∀ {l : List ExD} {k : Nat}, k < l.length → cntE (nthE l k) ≤ cntEs l := by
  intro l k h
  have e1 := cntEs_snoc h
  have e2 := cntEs_cut l (k + 1)
  omega
theorem args_of {x : ExD} (f : formE x = true) : (arD x.kind = -1 ∨ (x.args.length : Int) = arD x.kind) ∧ 1 ≤ x.kind ∧ x.kind ≤ 20 := by
  simp only [formE, knownE, Bool.and_eq_true, Bool.or_eq_true, beq_iff_eq, decide_eq_true_eq] at f
  exact ⟨f.1.1.2, f.1.1.1⟩
theorem two_cnt {l : List ExD} (h : l.length = 2) : cntEs l = cntE (nthE l 0) + cntE (nthE l 1) := by
  match l, h with
  | [a, b], _ => simp [cntEs, nthE]
theorem three_cnt {l : List ExD} (h : l.length = 3) : cntEs l = cntE (nthE l 0) + cntE (nthE l 1) + cntE (nthE l 2) := by
  match l, h with
  | [a, b, c], _ => simp [cntEs, nthE]; omega
theorem one_cnt {l : List ExD} (h : l.length = 1) : cntEs l = cntE (nthE l 0) := by
  match l, h with
  | [a], _ => simp [cntEs, nthE]
theorem ar_lit {k : Int} (h : 1 ≤ k ∧ k ≤ 20) : (k = 1 ∨ k = 2) ∧ arD k = 0 ∨ (k = 3 ∨ k = 5 ∨ k = 6) ∧ arD k = 1 ∨ k = 4 ∧ arD k = -1 ∨ k = 20 ∧ arD k = 3 ∨ (7 ≤ k ∧ k ≤ 19) ∧ arD k = 2 := by
  by_cases q : 7 ≤ k ∧ k ≤ 19
  · exact .inr (.inr (.inr (.inr ⟨q, (ar_no ⟨by omega, by omega⟩).1⟩)))
  · rcases (by omega : k = 1 ∨ k = 2 ∨ k = 3 ∨ k = 4 ∨ k = 5 ∨ k = 6 ∨ k = 20) with rfl | rfl | rfl | rfl | rfl | rfl | rfl <;> simp [arD]
theorem good_len {x : ExD} (g : GoodE x) : (exT x).length + 4 ≤ 64 * cntE x := by
  induction g with
  | @mk x form name n0 n1 kids ih =>
    have hs := sumT_ex x.args ih
    have hc := cntE_eq x
    obtain ⟨ha, hk⟩ := args_of form
    have hn : (numD x.n).length ≤ 20 := numD_len ⟨by omega, n1⟩
    have hb : (bytesOf' x.name).length ≤ 16 := name
    have hsg := signT_len x.kind
    rw [exT_eq, exT0]
    have part : ∀ (k : Nat) (r : Int), k < x.args.length → (argT x.args (exTs x.args) k r).length ≤ (exT (nthE x.args k)).length + 2 := fun k r h => by
      unfold argT; rw [exTs_get h]; exact parT_len _ _
    have hj := joinT_len (exTs x.args)
    rcases ar_lit hk with ⟨h | h, e⟩ | ⟨h | h | h, e⟩ | ⟨h, e⟩ | ⟨h, e⟩ | ⟨h, e⟩
    · rw [h]; simp only [beq_self_eq_true, if_true]; omega
    · rw [h]; simp; omega
    all_goals
      rw [e] at ha
    · have hl : x.args.length = 1 := by omega
      have i0 := ih 0 (by omega)
      have c := one_cnt hl
      rw [h, exTs_get (by omega)]; simp; omega
    · have hl : x.args.length = 1 := by omega
      have i0 := ih 0 (by omega)
      have c := one_cnt hl
      have p := part 0 8 (by omega)
      rw [h]; simp; omega
    · have hl : x.args.length = 1 := by omega
      have i0 := ih 0 (by omega)
      have c := one_cnt hl
      have p := part 0 8 (by omega)
      rw [h]; simp; omega
    · rw [h]; simp; omega
    · have hl : x.args.length = 3 := by omega
      have i0 := ih 0 (by omega)
      have i1 := ih 1 (by omega)
      have i2 := ih 2 (by omega)
      have c := three_cnt hl
      have p := part 0 2 (by omega)
      rw [h, exTs_get (k := 1) (by omega), exTs_get (k := 2) (by omega)]; simp; omega
    · have hl : x.args.length = 2 := by omega
      have i0 := ih 0 (by omega)
      have i1 := ih 1 (by omega)
      have c := two_cnt hl
      have p := part 0 (rankD x.kind) (by omega)
      have q := part 1 (rankD x.kind + 1) (by omega)
      rw [show (x.kind == 1) = false by simp; omega, show (x.kind == 2) = false by simp; omega, show (x.kind == 3) = false by simp; omega, show (x.kind == 4) = false by simp; omega, show (x.kind == 5) = false by simp; omega, show (x.kind == 6) = false by simp; omega, show (x.kind == 20) = false by simp; omega]
      simp; omega
end Go.Proofs.YtdddppmfeoebgaaDoor
