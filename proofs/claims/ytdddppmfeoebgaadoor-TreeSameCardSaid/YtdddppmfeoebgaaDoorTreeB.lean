/-
  Layer 2 (tree): what is counted, checked and printed, one element further on; in plain Lean.
-/
import Derived.Test.YtdddppmfeoebgaaDoorTreeT
namespace Go.Proofs.YtdddppmfeoebgaaDoor
open Go.RowKit
set_option linter.unusedSimpArgs false
set_option linter.unusedVariables false
theorem take_snoc {α : Type} (z : α) {l : List α} {k : Nat} (h : k < l.length) : l.take (k + 1) = l.take k ++ [l.getD k z] := by
  rw [List.take_add_one, List.getD_eq_getElem?_getD, List.getElem?_eq_getElem h]; rfl
/-- What goes through a list, one element further on. -/
theorem fold_snoc {α M : Type} {op : M → M → M} {e : M} (hl : ∀ m, op e m = m) (hr : ∀ m, op m e = m) (ha : ∀ a b c, op (op a b) c = op a (op b c)) {f : List α → M} {g : α → M} (h0 : f [] = e) (h1 : ∀ x r, f (x :: r) = op (g x) (f r)) (z : α) {l : List α} {k : Nat} (h : k < l.length) :
    f (l.take (k + 1)) = op (f (l.take k)) (g (l.getD k z)) := by
  rw [take_snoc z h]
  generalize l.take k = t
  induction t with
  | nil => rw [List.nil_append, h1, h0, hl, hr]
  | cons x t ih => rw [List.cons_append, h1, h1, ih, ha]
theorem fold_cut {α M : Type} {op : M → M → M} {e : M} (hl : ∀ m, op e m = m) (ha : ∀ a b c, op (op a b) c = op a (op b c)) {f : List α → M} {g : α → M} (h0 : f [] = e) (h1 : ∀ x r, f (x :: r) = op (g x) (f r)) (l : List α) (k : Nat) :
    f l = op (f (l.take k)) (f (l.drop k)) := by
  conv => lhs; rw [← List.take_append_drop k l]
  generalize l.take k = t
  generalize l.drop k = d
  induction t with
  | nil => rw [List.nil_append, h0, hl]
  | cons x t ih => rw [List.cons_append, h1, h1, ih, ha]
theorem drop_get' {α : Type} (z : α) {l : List α} {k : Nat} (h : k < l.length) : l.drop k = l.getD k z :: l.drop (k + 1) := by
  rw [List.drop_eq_getElem_cons h]; simp [List.getD_eq_getElem?_getD, h]
/-! ### Counted -/
theorem cntEs_snoc {l : List ExD} {k : Nat} (h : k < l.length) : cntEs (l.take (k + 1)) = cntEs (l.take k) + cntE (nthE l k) :=
  fold_snoc (op := (· + ·)) (e := 0) Nat.zero_add Nat.add_zero Nat.add_assoc (by rw [cntEs]) (fun x r => by rw [cntEs]) _ h
theorem cntSs_snoc {l : List StD} {k : Nat} (h : k < l.length) : cntSs (l.take (k + 1)) = cntSs (l.take k) + cntS (nthS l k) :=
  fold_snoc (op := (· + ·)) (e := 0) Nat.zero_add Nat.add_zero Nat.add_assoc (by rw [cntSs]) (fun x r => by rw [cntSs]) _ h
theorem cntCs_snoc {l : List CaD} {k : Nat} (h : k < l.length) : cntCs (l.take (k + 1)) = cntCs (l.take k) + cntC (nthC l k) :=
  fold_snoc (op := (· + ·)) (e := 0) Nat.zero_add Nat.add_zero Nat.add_assoc (by rw [cntCs]) (fun x r => by rw [cntCs]) _ h
theorem cntFs_snoc {l : List FnD} {k : Nat} (h : k < l.length) : cntFs (l.take (k + 1)) = cntFs (l.take k) + cntSs (nthF l k).body :=
  fold_snoc (op := (· + ·)) (e := 0) Nat.zero_add Nat.add_zero Nat.add_assoc (g := fun f : FnD => cntSs f.body) (by rw [cntFs]) (fun x r => by rw [cntFs]) _ h
theorem cntE_eq (x : ExD) : cntE x = 1 + cntEs x.args := by cases x; rw [cntE]; rfl
theorem cntS_eq (x : StD) : cntS x = 1 + cntZ x.a + cntZ x.b + cntSs x.body + cntCs x.cases + cntSs x.els := by cases x; rw [cntS]; rfl
theorem cntC_eq (x : CaD) : cntC x = 1 + cntSs x.body := by cases x; rw [cntC]; rfl
theorem cntEs_cut (l : List ExD) (k : Nat) : cntEs l = cntEs (l.take k) + cntEs (l.drop k) := fold_cut (op := (· + ·)) (e := 0) Nat.zero_add Nat.add_assoc (g := cntE) (by rw [cntEs]) (fun x r => by rw [cntEs]) _ _
theorem cntSs_cut (l : List StD) (k : Nat) : cntSs l = cntSs (l.take k) + cntSs (l.drop k) := fold_cut (op := (· + ·)) (e := 0) Nat.zero_add Nat.add_assoc (g := cntS) (by rw [cntSs]) (fun x r => by rw [cntSs]) _ _
theorem cntCs_cut (l : List CaD) (k : Nat) : cntCs l = cntCs (l.take k) + cntCs (l.drop k) := fold_cut (op := (· + ·)) (e := 0) Nat.zero_add Nat.add_assoc (g := cntC) (by rw [cntCs]) (fun x r => by rw [cntCs]) _ _
theorem cntFs_cut (l : List FnD) (k : Nat) : cntFs l = cntFs (l.take k) + cntFs (l.drop k) := fold_cut (op := (· + ·)) (e := 0) Nat.zero_add Nat.add_assoc (g := fun f : FnD => cntSs f.body) (by rw [cntFs]) (fun x r => by rw [cntFs]) _ _
theorem len_cntEs : ∀ l : List ExD, l.length ≤ cntEs l
  | [] => Nat.zero_le _
  | x :: r => by have := len_cntEs r; rw [cntEs, cntE_eq, List.length_cons]; omega
/-! ### Checked -/
/-- The first that is not zero. -/
def orI (a b : Int) : Int := if a ≠ 0 then a else b
theorem orI_z (a : Int) : orI 0 a = a := by simp [orI]
theorem orI_r (a : Int) : orI a 0 = a := by unfold orI; split <;> omega
theorem orI_a (a b c : Int) : orI (orI a b) c = orI a (orI b c) := by
  unfold orI
  repeat' split
  all_goals first | rfl | contradiction
theorem Met.on_l (m : Met) : Met.on ⟨0, 0⟩ m = m := by cases m; simp [Met.on]
theorem Met.on_r (m : Met) : m.on ⟨0, 0⟩ = m := by cases m; simp only [Met.on]; split <;> simp_all
theorem Met.on_a (a b c : Met) : (a.on b).on c = a.on (b.on c) := by
  cases a; cases b; cases c
  simp only [Met.on]
  repeat' split
  all_goals simp_all
  all_goals omega
theorem chkE_eq (x : ExD) (lv : Nat) : chkE x lv = orI (ownE x lv) (chkEs x.args (lv + 1)) := by cases x; rw [chkE]; rfl
theorem chkEs_snoc {l : List ExD} {k lv : Nat} (h : k < l.length) : chkEs (l.take (k + 1)) lv = orI (chkEs (l.take k) lv) (chkE (nthE l k) lv) :=
  fold_snoc (f := fun t => chkEs t lv) (g := fun x => chkE x lv) orI_z orI_r orI_a (by rw [chkEs]) (fun x r => by rw [chkEs]; rfl) _ h
theorem chkEs_cut (l : List ExD) (k lv : Nat) : chkEs l lv = orI (chkEs (l.take k) lv) (chkEs (l.drop k) lv) := fold_cut (f := fun t => chkEs t lv) (g := fun x => chkE x lv) orI_z orI_a (by rw [chkEs]) (fun x r => by rw [chkEs]; rfl) _ _
theorem chkSs_snoc {l : List StD} {k lv : Nat} (h : k < l.length) : chkSs (l.take (k + 1)) lv = (chkSs (l.take k) lv).on (chkS (nthS l k) lv) :=
  fold_snoc (f := fun t => chkSs t lv) (g := fun x => chkS x lv) Met.on_l Met.on_r Met.on_a (by rw [chkSs]) (fun x r => by rw [chkSs]) _ h
theorem chkSs_cut (l : List StD) (k lv : Nat) : chkSs l lv = (chkSs (l.take k) lv).on (chkSs (l.drop k) lv) := fold_cut (f := fun t => chkSs t lv) (g := fun x => chkS x lv) Met.on_l Met.on_a (by rw [chkSs]) (fun x r => by rw [chkSs]) _ _
theorem chkCs_snoc {l : List CaD} {k lv : Nat} (h : k < l.length) : chkCs (l.take (k + 1)) lv = (chkCs (l.take k) lv).on (chkSs (nthC l k).body lv) :=
  fold_snoc (f := fun t => chkCs t lv) (g := fun x : CaD => chkSs x.body lv) Met.on_l Met.on_r Met.on_a (by rw [chkCs]) (fun x r => by rw [chkCs]; cases x; rw [chkC]; rfl) _ h
theorem chkCs_cut (l : List CaD) (k lv : Nat) : chkCs l lv = (chkCs (l.take k) lv).on (chkCs (l.drop k) lv) := fold_cut (f := fun t => chkCs t lv) (g := fun x : CaD => chkSs x.body lv) Met.on_l Met.on_a (by rw [chkCs]) (fun x r => by rw [chkCs]; cases x; rw [chkC]; rfl) _ _
theorem chkS_eq (x : StD) (lv : Nat) : chkS x lv = Met.on ⟨1, if 32 < lv then 20 else ownS x⟩
      (Met.on ⟨0, if cA x.kind then chkE x.a (lv + 1) else 0⟩ (Met.on ⟨0, if cB x.kind then chkE x.b (lv + 1) else 0⟩ (Met.on (chkSs x.body (lv + 1)) (Met.on (chkCs x.cases (lv + 1)) (chkSs x.els (lv + 1)))))) := by
  cases x; rw [chkS]; rfl
/-- What went wrong among the first is what went wrong. -/
theorem chkEs_stop {l : List ExD} {k lv : Nat} (h : chkEs (l.take k) lv ≠ 0) : chkEs l lv = chkEs (l.take k) lv := by rw [chkEs_cut l k, orI, if_pos h]
theorem chkSs_stop {l : List StD} {k lv : Nat} (h : (chkSs (l.take k) lv).e ≠ 0) : chkSs l lv = chkSs (l.take k) lv := by rw [chkSs_cut l k, Met.on, if_pos h]
theorem chkCs_stop {l : List CaD} {k lv : Nat} (h : (chkCs (l.take k) lv).e ≠ 0) : chkCs l lv = chkCs (l.take k) lv := by rw [chkCs_cut l k, Met.on, if_pos h]
/-! ### Printed -/
theorem stTs_snoc {l : List StD} {k d : Nat} (h : k < l.length) : stTs (l.take (k + 1)) d = stTs (l.take k) d ++ stT (nthS l k) d :=
  fold_snoc (op := (· ++ ·)) (e := []) (f := fun t => stTs t d) (g := fun x => stT x d) List.nil_append List.append_nil List.append_assoc (by rw [stTs]) (fun x r => by rw [stTs]) _ h
theorem caTs_snoc {l : List CaD} {k d : Nat} (h : k < l.length) : caTs (l.take (k + 1)) d = caTs (l.take k) d ++ caT (nthC l k) d :=
  fold_snoc (op := (· ++ ·)) (e := []) (f := fun t => caTs t d) (g := fun x => caT x d) List.nil_append List.append_nil List.append_assoc (by rw [caTs]) (fun x r => by rw [caTs]) _ h
theorem fnTs_snoc {l : List FnD} {k : Nat} (h : k < l.length) : fnTs (l.take (k + 1)) = fnTs (l.take k) ++ fnT (nthF l k) :=
  fold_snoc (op := (· ++ ·)) (e := []) (f := fnTs) (g := fnT) List.nil_append List.append_nil List.append_assoc (by rw [fnTs]) (fun x r => by rw [fnTs]) _ h
theorem exTs_len : ∀ l : List ExD, (exTs l).length = l.length
  | [] => by rw [exTs]; rfl
  | x :: r => by rw [exTs, List.length_cons, List.length_cons, exTs_len r]
theorem exTs_get : ∀ {l : List ExD} {k : Nat}, k < l.length → (exTs l).getD k [] = exT (nthE l k)
  | [], k, h => by simp at h
  | x :: r, 0, h => by rw [exTs]; rfl
  | x :: r, k + 1, h => by rw [exTs, List.getD_cons_succ, exTs_get (by simpa using h)]; rfl
theorem exTs_map : ∀ l : List ExD, exTs l = l.map exT
  | [] => by rw [exTs]; rfl
  | x :: r => by rw [exTs, exTs_map r]; rfl
end Go.Proofs.YtdddppmfeoebgaaDoor
