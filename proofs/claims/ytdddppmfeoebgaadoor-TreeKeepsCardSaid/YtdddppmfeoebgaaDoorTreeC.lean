/-
  Layer 2 (tree), in plain Lean: what is the same; texts one behind the other; one statement without its kind.
-/
import Derived.Test.YtdddppmfeoebgaaDoorTreeB
namespace Go.Proofs.YtdddppmfeoebgaaDoor
open Go.RowKit
set_option linter.unusedSimpArgs false
set_option linter.unusedVariables false
/-! ### The same -/
mutual
theorem sameE_iff : ∀ x y : ExD, sameE x y = true ↔ x = y
  | .mk k n s l, .mk k' n' s' l' => by
    rw [sameE, Bool.and_eq_true, Bool.and_eq_true, Bool.and_eq_true, beq_iff_eq, beq_iff_eq, decide_eq_true_iff, sameEs_iff l l', ExD.mk.injEq, and_assoc, and_assoc]
theorem sameEs_iff : ∀ l m : List ExD, sameEs l m = true ↔ l = m
  | [], [] => by simp [sameEs]
  | [], _ :: _ => by simp [sameEs]
  | _ :: _, [] => by simp [sameEs]
  | x :: r, y :: t => by rw [sameEs, Bool.and_eq_true, sameE_iff x y, sameEs_iff r t, List.cons.injEq]
end
mutual
theorem sameS_iff : ∀ x y : StD, sameS x y = true ↔ x = y
  | .mk k s n a b body els cases, .mk k' s' n' a' b' body' els' cases' => by
    rw [sameS]
    simp only [Bool.and_eq_true, beq_iff_eq, decide_eq_true_iff, sameE_iff, sameSs_iff body body', sameSs_iff els els', sameCs_iff cases cases', StD.mk.injEq, and_assoc]
theorem sameC_iff : ∀ x y : CaD, sameC x y = true ↔ x = y
  | .mk n body, .mk n' body' => by rw [sameC, Bool.and_eq_true, beq_iff_eq, sameSs_iff body body', CaD.mk.injEq]
theorem sameSs_iff : ∀ l m : List StD, sameSs l m = true ↔ l = m
  | [], [] => by simp [sameSs]
  | [], _ :: _ => by simp [sameSs]
  | _ :: _, [] => by simp [sameSs]
  | x :: r, y :: t => by rw [sameSs, Bool.and_eq_true, sameS_iff x y, sameSs_iff r t, List.cons.injEq]
theorem sameCs_iff : ∀ l m : List CaD, sameCs l m = true ↔ l = m
  | [], [] => by simp [sameCs]
  | [], _ :: _ => by simp [sameCs]
  | _ :: _, [] => by simp [sameCs]
  | x :: r, y :: t => by rw [sameCs, Bool.and_eq_true, sameC_iff x y, sameCs_iff r t, List.cons.injEq]
end
/-! ### Checked, function by function -/
theorem orI_zero {a b : Int} : orI a b = 0 ↔ a = 0 ∧ b = 0 := by
  unfold orI
  split <;> constructor <;> intro h
  · contradiction
  · exact absurd h.1 (by assumption)
  · rename_i h0; exact ⟨Classical.not_not.1 h0, h⟩
  · exact h.2
theorem Met.on_e {p q : Met} : (p.on q).e = orI p.e q.e := by unfold Met.on orI; split <;> rfl
theorem Met.on_okC {p q : Met} (h : p.e = 0) : p.on q = ⟨p.n + q.n, q.e⟩ := by rw [Met.on, if_neg (by simp [h])]
theorem fnsD_ok : ∀ {l : List FnD} {i : Nat}, (fnsD l i).e = 0 → ∀ k, k < l.length → faceD (nthF l k) = 0 ∧ (chkSs (nthF l k).body 1).e = 0
  | [], i, _, k, hk => by simp at hk
  | f :: r, i, h, k, hk => by
    rw [fnsD] at h
    split at h
    · rename_i h0; exact absurd h h0
    · rename_i h0
      split at h
      · rename_i h1; exact absurd h h1
      · rename_i h1
        cases k with
        | zero => exact ⟨Classical.not_not.1 h0, Classical.not_not.1 h1⟩
        | succ k => exact fnsD_ok h k (by simpa using hk)
theorem fnsD_ok_eq : ∀ {l : List FnD} {i : Nat}, (∀ k, k < l.length → faceD (nthF l k) = 0 ∧ (chkSs (nthF l k).body 1).e = 0) → fnsD l i = ⟨0, 0, 0⟩
  | [], i, _ => by rw [fnsD]
  | f :: r, i, h => by
    rw [fnsD, if_neg fun c => c (h 0 (by simp)).1, if_neg fun c => c (h 0 (by simp)).2]
    exact fnsD_ok_eq fun k hk => h (k + 1) (by simpa using hk)
/-- The first function that is wrong, behind right ones. -/
theorem fnsD_atC : ∀ {l : List FnD} {i k : Nat}, k < l.length → (∀ j, j < k → faceD (nthF l j) = 0 ∧ (chkSs (nthF l j).body 1).e = 0) → faceD (nthF l k) = 0 → (chkSs (nthF l k).body 1).e ≠ 0 →
    fnsD l i = ⟨(chkSs (nthF l k).body 1).e, i + k, (chkSs (nthF l k).body 1).n⟩
  | [], i, k, hk, _, _, _ => by simp at hk
  | f :: r, i, 0, hk, _, h1, h2 => by
    rw [fnsD, if_neg fun c => c h1, if_pos (show (chkSs f.body 1).e ≠ 0 from h2)]; rfl
  | f :: r, i, k + 1, hk, h, h1, h2 => by
    rw [fnsD, if_neg fun c => c (h 0 (by omega)).1, if_neg fun c => c (h 0 (by omega)).2, fnsD_atC (l := r) (i := i + 1) (k := k) (by simpa using hk) (fun j hj => h (j + 1) (by omega)) h1 h2, show i + 1 + k = i + (k + 1) by omega]; rfl
theorem checkD_ok {p : PrD} (h : (checkD p).e = 0) : headD p = 0 ∧ (fnsD p.funcs 0).e = 0 := by
  unfold checkD at h
  split at h
  · rename_i h0; exact absurd h h0
  · rename_i h0; exact ⟨Classical.not_not.1 h0, h⟩
theorem headD_ok {p : PrD} (h : headD p = 0) : p.widen.length ≤ 16 ∧ (p.widen.any (· == least)) = false ∧ risesD p.widen = true ∧ p.funcs.length ≤ 32 ∧ cntFs p.funcs ≤ 4096 := by
  unfold headD at h
  repeat' split at h
  all_goals first | (exact absurd h (by decide)) | skip
  rename_i h1 h2 h3 h4
  exact ⟨by omega, by cases e : p.widen.any (· == least) <;> simp_all, by simpa using h3, by omega, by omega⟩
theorem headD_mk {p : PrD} (h1 : p.widen.length ≤ 16) (h2 : (p.widen.any (· == least)) = false) (h3 : risesD p.widen = true) (h4 : p.funcs.length ≤ 32) (h5 : cntFs p.funcs ≤ 4096) : headD p = 0 := by
  rw [headD, if_neg (by omega), if_neg (by simp [h2]), if_neg (by simp [h3]), if_neg (by omega)]
theorem cntF_le {l : List FnD} {k : Nat} (h : k < l.length) : cntSs (nthF l k).body ≤ cntFs l := by
  have h1 := cntFs_cut l (k + 1)
  have h2 := cntFs_snoc h
  omega
theorem checkD_ok_eq {p : PrD} (h : (checkD p).e = 0) : checkD p = ⟨0, 0, 0⟩ := by
  obtain ⟨h1, h2⟩ := checkD_ok h
  rw [checkD, if_neg (by simp [h1]), fnsD_ok_eq fun k hk => fnsD_ok h2 k hk]
/-! ### Texts one behind the other -/
theorem fnTs_cut (l : List FnD) (k : Nat) : fnTs l = fnTs (l.take k) ++ fnTs (l.drop k) := fold_cut (op := (· ++ ·)) (e := []) (g := fnT) List.nil_append List.append_assoc (by rw [fnTs]) (fun x r => by rw [fnTs]) _ _
/-- One function of a program that has a form. -/
theorem one_ok {p : PrD} (h : (checkD p).e = 0) {k : Nat} (hk : k < p.funcs.length) : checkD ⟨[], [nthF p.funcs k]⟩ = ⟨0, 0, 0⟩ := by
  obtain ⟨h1, h2⟩ := checkD_ok h
  obtain ⟨_, _, _, _, h3⟩ := headD_ok h1
  have h4 := cntF_le hk
  have h5 := headD_mk (p := ⟨[], [nthF p.funcs k]⟩) (by simp) rfl rfl (by simp) (by simp only [cntFs]; omega)
  rw [checkD, if_neg (by simp [h5])]
  refine fnsD_ok_eq fun j hj => ?_
  obtain rfl : j = 0 := by simpa using hj
  exact fnsD_ok h2 k hk
theorem fnT_pos (f : FnD) : fnT f ≠ [] := by
  intro h
  have := congrArg List.length h
  simp [fnT, lineT] at this
theorem print_ok {p : PrD} (h : (printD p).2.e = 0) : checkD p = ⟨0, 0, 0⟩ ∧ printD p = (prT p, ⟨0, 0, 0⟩) ∧ (prT p).length ≤ 65536 := by
  unfold printD at h ⊢
  split at h
  · rename_i h0; exact absurd h h0
  · rename_i h0
    have h1 := checkD_ok_eq (Classical.not_not.1 h0)
    split at h
    · exact absurd h (by simp)
    · rename_i h2
      refine ⟨h1, ?_, by omega⟩
      rw [if_neg h0, if_neg h2]
theorem print_bad {p : PrD} (h : (printD p).2.e ≠ 0) : (printD p).1 = [] ∧ ((printD p).2 = checkD p ∨ (printD p).2 = ⟨4, 0, 0⟩) := by
  unfold printD at h ⊢
  split
  · exact ⟨rfl, .inl rfl⟩
  · rename_i h0
    rw [if_neg h0] at h
    split
    · exact ⟨rfl, .inr rfl⟩
    · rename_i h1
      rw [if_neg h1] at h
      exact absurd rfl h
theorem print_one {p : PrD} (h : (printD p).2.e = 0) {k : Nat} (hk : k < p.funcs.length) : printD ⟨[], [nthF p.funcs k]⟩ = (fnT (nthF p.funcs k), ⟨0, 0, 0⟩) := by
  obtain ⟨h1, h2, h3⟩ := print_ok h
  have h4 := one_ok (by rw [h1]) hk
  have e : prT ⟨[], [nthF p.funcs k]⟩ = fnT (nthF p.funcs k) := by simp [prT, widT, fnTs]
  have hl : (fnT (nthF p.funcs k)).length ≤ (prT p).length := by
    have e1 := fnTs_cut p.funcs (k + 1)
    rw [fnTs_snoc hk] at e1
    rw [prT, e1]
    simp only [List.length_append]
    omega
  rw [printD, h4, if_neg (by simp), e, if_neg (by omega)]
theorem print_wid {p : PrD} (h : (printD p).2.e = 0) : printD ⟨p.widen, []⟩ = (widT p.widen, ⟨0, 0, 0⟩) := by
  obtain ⟨h1, h2, h3⟩ := print_ok h
  obtain ⟨h4, _⟩ := checkD_ok (p := p) (by rw [h1])
  obtain ⟨a1, a2, a3, _, _⟩ := headD_ok h4
  have h5 := headD_mk (p := ⟨p.widen, []⟩) a1 a2 a3 (by simp) (by simp [cntFs])
  have h6 : checkD ⟨p.widen, []⟩ = ⟨0, 0, 0⟩ := by rw [checkD, if_neg (by simp [h5])]; rfl
  have e : prT ⟨p.widen, []⟩ = widT p.widen := by simp [prT, fnTs]
  rw [printD, h6, if_neg (by simp), e, if_neg (by have : (prT p).length = (widT p.widen).length + (fnTs p.funcs).length := by simp [prT]
                                                  omega)]
theorem nodes_ok {p : PrD} (h : (checkD p).e = 0) : nodesD p = cntFs p.funcs := by
  obtain ⟨h1, _⟩ := checkD_ok h
  obtain ⟨_, _, _, _, h5⟩ := headD_ok h1
  rw [nodesD]; omega
theorem nodes_one {p : PrD} (h : (checkD p).e = 0) {k : Nat} (hk : k < p.funcs.length) : nodesD ⟨[], [nthF p.funcs k]⟩ = cntSs (nthF p.funcs k).body := by
  obtain ⟨h1, _⟩ := checkD_ok h
  obtain ⟨_, _, _, _, h5⟩ := headD_ok h1
  have := cntF_le hk
  simp only [nodesD, cntFs]; omega
end Go.Proofs.YtdddppmfeoebgaaDoor
