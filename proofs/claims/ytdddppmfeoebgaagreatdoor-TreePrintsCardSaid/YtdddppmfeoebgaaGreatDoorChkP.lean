/-
  Layer 2 (tree): what is wrong with statements, step by step; in plain Lean.
-/
import Derived.Test.YtdddppmfeoebgaaGreatDoorTreeP
namespace Go.Proofs.YtdddppmfeoebgaaGreatDoor
open Go.RowKit
set_option linter.unusedSimpArgs false
set_option linter.unusedVariables false
theorem Met.on_ok {p q : Met} (h : p.e = 0) : p.on q = ⟨p.n + q.n, q.e⟩ := by rw [Met.on, if_neg (by omega)]
theorem Met.on_bad {p q : Met} (h : p.e ≠ 0) : p.on q = p := by rw [Met.on, if_pos h]
theorem Met.on_bad' {n : Nat} {e : Int} {q : Met} (h : e ≠ 0) : Met.on ⟨n, e⟩ q = ⟨n, e⟩ := Met.on_bad h
/-- A statement's expressions and body. -/
def midS (x : StD) (lv : Nat) : Met := Met.on ⟨0, if cA x.kind then chkE x.a (lv + 1) else 0⟩ (Met.on ⟨0, if cB x.kind then chkE x.b (lv + 1) else 0⟩ (chkSs x.body (lv + 1)))
theorem chkS_mid (x : StD) (lv : Nat) : chkS x lv = Met.on ⟨1, if 32 < lv then 20 else ownS x⟩ ((midS x lv).on ((chkCs x.cases (lv + 1)).on (chkSs x.els (lv + 1)))) := by
  rw [chkS_eq, midS, Met.on_a, Met.on_a]
theorem chkS_deep {x : StD} {lv : Nat} (h : 32 < lv) : chkS x lv = ⟨1, 20⟩ := by rw [chkS_mid, if_pos h, Met.on_bad (by simp)]
theorem chkS_own {x : StD} {lv : Nat} (h : ¬ 32 < lv) (o : ownS x ≠ 0) : chkS x lv = ⟨1, ownS x⟩ := by rw [chkS_mid, if_neg h, Met.on_bad o]
theorem chkS_rest {x : StD} {lv : Nat} (h : ¬ 32 < lv) (o : ownS x = 0) : chkS x lv = Met.on ⟨1, 0⟩ ((midS x lv).on ((chkCs x.cases (lv + 1)).on (chkSs x.els (lv + 1)))) := by rw [chkS_mid, if_neg h, o]
theorem chkS_bad {x : StD} {lv : Nat} (h : ¬ 32 < lv) (o : ownS x = 0) (m : (midS x lv).e ≠ 0) : chkS x lv = ⟨1 + (midS x lv).n, (midS x lv).e⟩ := by rw [chkS_rest h o, Met.on_bad m, Met.on_ok rfl]
theorem chkS_case {x : StD} {lv j : Nat} (h : ¬ 32 < lv) (o : ownS x = 0) (m : (midS x lv).e = 0) (hj : j < x.cases.length) (p : (chkCs (x.cases.take j) (lv + 1)).e = 0) (q : (chkSs (nthC x.cases j).body (lv + 1)).e ≠ 0) :
    chkS x lv = ⟨1 + (midS x lv).n + (chkCs (x.cases.take j) (lv + 1)).n + (chkSs (nthC x.cases j).body (lv + 1)).n, (chkSs (nthC x.cases j).body (lv + 1)).e⟩ := by
  have e1 : chkCs (x.cases.take (j + 1)) (lv + 1) = ⟨(chkCs (x.cases.take j) (lv + 1)).n + (chkSs (nthC x.cases j).body (lv + 1)).n, (chkSs (nthC x.cases j).body (lv + 1)).e⟩ := by rw [chkCs_snoc hj, Met.on_ok p]
  have e2 : chkCs x.cases (lv + 1) = chkCs (x.cases.take (j + 1)) (lv + 1) := chkCs_stop (by rw [e1]; exact q)
  rw [chkS_rest h o, e2, e1, Met.on_bad' q, Met.on_ok m, Met.on_ok rfl]
  simp only [Met.mk.injEq, and_true]; omega
theorem chkS_end {x : StD} {lv : Nat} (h : ¬ 32 < lv) (o : ownS x = 0) (m : (midS x lv).e = 0) (p : (chkCs x.cases (lv + 1)).e = 0) :
    chkS x lv = ⟨1 + (midS x lv).n + (chkCs x.cases (lv + 1)).n + (chkSs x.els (lv + 1)).n, (chkSs x.els (lv + 1)).e⟩ := by
  rw [chkS_rest h o, Met.on_ok p, Met.on_ok m, Met.on_ok rfl]
  simp only [Met.mk.injEq, and_true]; omega
theorem chkSs_step {l : List StD} {k lv : Nat} (hk : k < l.length) (p : (chkSs (l.take k) lv).e = 0) : chkSs (l.take (k + 1)) lv = ⟨(chkSs (l.take k) lv).n + (chkS (nthS l k) lv).n, (chkS (nthS l k) lv).e⟩ := by rw [chkSs_snoc hk, Met.on_ok p]
theorem chkSs_bad {l : List StD} {k lv : Nat} (hk : k < l.length) (p : (chkSs (l.take k) lv).e = 0) (q : (chkS (nthS l k) lv).e ≠ 0) : chkSs l lv = ⟨(chkSs (l.take k) lv).n + (chkS (nthS l k) lv).n, (chkS (nthS l k) lv).e⟩ := by
  rw [← chkSs_step hk p]; exact chkSs_stop (by rw [chkSs_step hk p]; exact q)
/-! ### No more are met than there are -/
theorem on_n (p q : Met) : (p.on q).n ≤ p.n + q.n := by unfold Met.on; split <;> simp
mutual
theorem chkS_le : ∀ (x : StD) (lv : Nat), (chkS x lv).n ≤ cntS x
  | .mk k s n a b body els cases, lv => by
    have h1 := chkSs_le body (lv + 1)
    have h2 := chkCs_le cases (lv + 1)
    have h3 := chkSs_le els (lv + 1)
    rw [chkS, cntS]
    refine Nat.le_trans (on_n _ _) ?_
    refine Nat.le_trans (Nat.add_le_add_left (on_n _ _) _) ?_
    refine Nat.le_trans (Nat.add_le_add_left (Nat.add_le_add_left (on_n _ _) _) _) ?_
    refine Nat.le_trans (Nat.add_le_add_left (Nat.add_le_add_left (Nat.add_le_add_left (on_n _ _) _) _) _) ?_
    refine Nat.le_trans (Nat.add_le_add_left (Nat.add_le_add_left (Nat.add_le_add_left (Nat.add_le_add_left (on_n _ _) _) _) _) _) ?_
    show 1 + (0 + (0 + ((chkSs body (lv + 1)).n + ((chkCs cases (lv + 1)).n + (chkSs els (lv + 1)).n)))) ≤ _
    omega
theorem chkC_le : ∀ (x : CaD) (lv : Nat), (chkC x lv).n ≤ cntC x
  | .mk n body, lv => by
    have h1 := chkSs_le body lv
    rw [chkC, cntC]; omega
theorem chkSs_le : ∀ (l : List StD) (lv : Nat), (chkSs l lv).n ≤ cntSs l
  | [], lv => by rw [chkSs, cntSs]; exact Nat.le_refl _
  | x :: r, lv => by
    have h1 := chkS_le x lv
    have h2 := chkSs_le r lv
    rw [chkSs, cntSs]
    exact Nat.le_trans (on_n _ _) (by omega)
theorem chkCs_le : ∀ (l : List CaD) (lv : Nat), (chkCs l lv).n ≤ cntCs l
  | [], lv => by rw [chkCs, cntCs]; exact Nat.le_refl _
  | x :: r, lv => by
    have h1 := chkC_le x lv
    have h2 := chkCs_le r lv
    rw [chkCs, cntCs]
    exact Nat.le_trans (on_n _ _) (by omega)
end
theorem midS_le (x : StD) (lv : Nat) : (midS x lv).n ≤ cntSs x.body := by
  unfold midS
  refine Nat.le_trans (on_n _ _) ?_
  refine Nat.le_trans (Nat.add_le_add_left (on_n _ _) _) ?_
  have := chkSs_le x.body (lv + 1)
  simp only [Nat.zero_add]; exact this
end Go.Proofs.YtdddppmfeoebgaaGreatDoor
