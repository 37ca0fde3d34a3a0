/-
  Layer 2 (tree): the texts of programs, in plain Lean.
-/
import Derived.Test.YtdddppmfeoebgaaGreatDoorTreeA
import Derived.Lib.ItoaNum
import Derived.Lib.ItoaMem
namespace Go.Proofs.YtdddppmfeoebgaaGreatDoor
open Go.RowKit
set_option linter.unusedSimpArgs false
set_option linter.unusedVariables false
/-- A number's digits. -/
def numD (n : Int) : List UInt8 := Lib.itoa n
def rankD (k : Int) : Int := if k == 20 then 1 else if k == 19 then 2 else if k == 18 then 3 else if k == 12 || k == 13 then 4 else if k == 14 || k == 15 || k == 16 || k == 17 then 5 else if k == 7 || k == 8 then 6 else if k == 9 || k == 10 || k == 11 then 7 else if k == 5 || k == 6 then 8 else 9
def signL : List (List UInt8) := [[43], [45], [42], [47], [37], [61, 61], [33, 61], [60], [60, 61], [62], [62, 61], [38, 38], [124, 124]]
def signT (k : Int) : List UInt8 := if 7 ≤ k ∧ k ≤ 19 then signL.getD (k - 7).toNat [] else []
/-- An argument that must have a rank. -/
def parT (b : Bool) (t : List UInt8) : List UInt8 := if b then 40 :: (t ++ [41]) else t
def argT (l : List ExD) (t : List (List UInt8)) (k : Nat) (r : Int) : List UInt8 := parT (decide (rankD (nthE l k).kind < r)) (t.getD k [])
/-- Texts with commas between. -/
def joinT : List (List UInt8) → List UInt8
  | [] => []
  | [a] => a
  | a :: b :: r => a ++ 44 :: 32 :: joinT (b :: r)
def exT0 (k n : Int) (s : List UInt8) (l : List ExD) (t : List (List UInt8)) : List UInt8 :=
  if k == 1 then numD n else if k == 2 then s else if k == 3 then s ++ 91 :: (t.getD 0 [] ++ [93]) else if k == 4 then s ++ 40 :: (joinT t ++ [41])
  else if k == 5 then 45 :: argT l t 0 8 else if k == 6 then 33 :: argT l t 0 8
  else if k == 20 then argT l t 0 2 ++ 32 :: 63 :: 32 :: (t.getD 1 [] ++ 32 :: 58 :: 32 :: t.getD 2 [])
  else argT l t 0 (rankD k) ++ 32 :: (signT k ++ 32 :: argT l t 1 (rankD k + 1))
mutual
def exT : ExD → List UInt8
  | .mk k n s l => exT0 k n (bytesOf' s) l (exTs l)
def exTs : List ExD → List (List UInt8)
  | [] => []
  | x :: r => exT x :: exTs r
end
/-- A line that lies in so many bodies. -/
def lineT (n : Nat) (s : List UInt8) : List UInt8 := List.replicate (2 * n) 32 ++ (s ++ [10])
mutual
def stT : StD → Nat → List UInt8
  | .mk k s n a b body els cases, d =>
    if k == 1 then lineT d ([108, 101, 116, 32] ++ (bytesOf' s ++ ([32, 61, 32] ++ (exT a ++ [59]))))
    else if k == 2 then lineT d ([108, 101, 116, 32] ++ (bytesOf' s ++ (91 :: (numD n ++ [93, 59]))))
    else if k == 3 then lineT d (bytesOf' s ++ ([32, 61, 32] ++ (exT a ++ [59])))
    else if k == 4 then lineT d (bytesOf' s ++ (91 :: (exT a ++ ([93, 32, 61, 32] ++ (exT b ++ [59])))))
    else if k == 5 then lineT d ([105, 102, 32] ++ (exT a ++ [32, 123])) ++ (stTs body (d + 1) ++ ((if els.length = 0 then [] else lineT d [125, 32, 101, 108, 115, 101, 32, 123] ++ stTs els (d + 1)) ++ lineT d [125]))
    else if k == 6 then lineT d ([115, 119, 105, 116, 99, 104, 32] ++ (exT a ++ [32, 123])) ++ (caTs cases (d + 1) ++ ((if els.length = 0 then [] else lineT (d + 1) [101, 108, 115, 101, 32, 123] ++ (stTs els (d + 2) ++ lineT (d + 1) [125])) ++ lineT d [125]))
    else if k == 7 then lineT d ([102, 111, 114, 32] ++ (bytesOf' s ++ ([32, 105, 110, 32] ++ (exT a ++ (46 :: 46 :: (exT b ++ [32, 123])))))) ++ (stTs body (d + 1) ++ lineT d [125])
    else if k == 8 then lineT d [98, 114, 101, 97, 107, 59]
    else if k == 9 then lineT d ([114, 101, 116, 117, 114, 110, 32] ++ (exT a ++ [59]))
    else lineT d (exT a ++ [59])
def caT : CaD → Nat → List UInt8
  | .mk n body, d => lineT d ([99, 97, 115, 101, 32] ++ (numD n ++ [32, 123])) ++ (stTs body (d + 1) ++ lineT d [125])
def stTs : List StD → Nat → List UInt8
  | [], _ => []
  | x :: r, d => stT x d ++ stTs r d
def caTs : List CaD → Nat → List UInt8
  | [], _ => []
  | x :: r, d => caT x d ++ caTs r d
end
def paT (x : PaD) : List UInt8 := bytesOf' x.name ++ ([32, 105, 110, 32] ++ (numD x.lo ++ (46 :: 46 :: numD x.hi)))
def fnT (f : FnD) : List UInt8 := lineT 0 ([102, 110, 32] ++ (bytesOf' f.name ++ (40 :: (joinT (f.params.map paT) ++ [41, 32, 123])))) ++ (stTs f.body 1 ++ lineT 0 [125])
def fnTs : List FnD → List UInt8
  | [] => []
  | f :: r => fnT f ++ fnTs r
def widT (l : List Int) : List UInt8 := if l.length = 0 then [] else lineT 0 ([119, 105, 100, 101, 110, 32] ++ (joinT (l.map numD) ++ [59]))
def prT (p : PrD) : List UInt8 := widT p.widen ++ fnTs p.funcs
/-- A program's text, or why there is none. -/
def printD (p : PrD) : List UInt8 × FaultD := if (checkD p).e ≠ 0 then ([], checkD p) else if 65536 < (prT p).length then ([], ⟨4, 0, 0⟩) else (prT p, ⟨0, 0, 0⟩)
/-! ### Are they the same? -/
mutual
def sameE : ExD → ExD → Bool
  | .mk k n s l, .mk k' n' s' l' => k == k' && n == n' && decide (s = s') && sameEs l l'
def sameEs : List ExD → List ExD → Bool
  | [], [] => true
  | x :: r, y :: t => sameE x y && sameEs r t
  | _, _ => false
end
mutual
def sameS : StD → StD → Bool
  | .mk k s n a b body els cases, .mk k' s' n' a' b' body' els' cases' => k == k' && decide (s = s') && n == n' && sameE a a' && sameE b b' && sameSs body body' && sameSs els els' && sameCs cases cases'
def sameC : CaD → CaD → Bool
  | .mk n body, .mk n' body' => n == n' && sameSs body body'
def sameSs : List StD → List StD → Bool
  | [], [] => true
  | x :: r, y :: t => sameS x y && sameSs r t
  | _, _ => false
def sameCs : List CaD → List CaD → Bool
  | [], [] => true
  | x :: r, y :: t => sameC x y && sameCs r t
  | _, _ => false
end
end Go.Proofs.YtdddppmfeoebgaaGreatDoor

/-
  Layer 2 (tree): what is counted, checked and printed, one element further on; in plain Lean.
-/
namespace Go.Proofs.YtdddppmfeoebgaaGreatDoor
open Go.RowKit
set_option linter.unusedSimpArgs false
set_option linter.unusedVariables false
theorem take_snoc {α : Type} (z : α) {l : List α} {k : Nat} (h : k < l.length) : l.take (k + 1) = l.take k ++ [l.getD k z] := by
  rw [List.take_add_one, List.getD_eq_getElem?_getD, List.getElem?_eq_getElem h]; rfl
/-- What goes through a list, one element further on. -/
theorem fold_snoc {α M : Type} {op : M → M → M} {e : M} (hl : ∀ m, op e m = m) (hr : ∀ m, op m e = m) (ha : ∀ a b c, op (op a b) c = op a (op b c)) {f : List α → M} {g : α → M} (h0 : f [] = e) (h1 : ∀ x r, f (x :: r) = op (g x) (f r)) (z : α) {l : List α} {k : Nat} (h : k < l.length) :
    f (l.take (k + 1)) = op (f (l.take k)) (g (l.getD k z)) := by
  rw [take_snoc z h]
  generalize l.take k = t
  induction t with
  | nil => rw [List.nil_append, h1, h0, hl, hr]
  | cons x t ih => rw [List.cons_append, h1, h1, ih, ha]
theorem fold_cut {α M : Type} {op : M → M → M} {e : M} (hl : ∀ m, op e m = m) (ha : ∀ a b c, op (op a b) c = op a (op b c)) {f : List α → M} {g : α → M} (h0 : f [] = e) (h1 : ∀ x r, f (x :: r) = op (g x) (f r)) (l : List α) (k : Nat) :
    f l = op (f (l.take k)) (f (l.drop k)) := by
  conv => lhs; rw [← List.take_append_drop k l]
  generalize l.take k = t
  generalize l.drop k = d
  induction t with
  | nil => rw [List.nil_append, h0, hl]
  | cons x t ih => rw [List.cons_append, h1, h1, ih, ha]
theorem drop_get' {α : Type} (z : α) {l : List α} {k : Nat} (h : k < l.length) : l.drop k = l.getD k z :: l.drop (k + 1) := by
  rw [List.drop_eq_getElem_cons h]; simp [List.getD_eq_getElem?_getD, h]
/-! ### Counted -/
theorem cntEs_snoc {l : List ExD} {k : Nat} (h : k < l.length) : cntEs (l.take (k + 1)) = cntEs (l.take k) + cntE (nthE l k) :=
  fold_snoc (op := (· + ·)) (e := 0) Nat.zero_add Nat.add_zero Nat.add_assoc (by rw [cntEs]) (fun x r => by rw [cntEs]) _ h
theorem cntSs_snoc {l : List StD} {k : Nat} (h : k < l.length) : cntSs (l.take (k + 1)) = cntSs (l.take k) + cntS (nthS l k) :=
  fold_snoc (op := (· + ·)) (e := 0) Nat.zero_add Nat.add_zero Nat.add_assoc (by rw [cntSs]) (fun x r => by rw [cntSs]) _ h
theorem cntCs_snoc {l : List CaD} {k : Nat} (h : k < l.length) : cntCs (l.take (k + 1)) = cntCs (l.take k) + cntC (nthC l k) :=
  fold_snoc (op := (· + ·)) (e := 0) Nat.zero_add Nat.add_zero Nat.add_assoc (by rw [cntCs]) (fun x r => by rw [cntCs]) _ h
theorem cntFs_snoc {l : List FnD} {k : Nat} (h : k < l.length) : cntFs (l.take (k + 1)) = cntFs (l.take k) + cntSs (nthF l k).body :=
  fold_snoc (op := (· + ·)) (e := 0) Nat.zero_add Nat.add_zero Nat.add_assoc (g := fun f : FnD => cntSs f.body) (by rw [cntFs]) (fun x r => by rw [cntFs]) _ h
theorem cntE_eq (x : ExD) : cntE x = 1 + cntEs x.args := by cases x; rw [cntE]; rfl
theorem cntS_eq (x : StD) : cntS x = 1 + cntZ x.a + cntZ x.b + cntSs x.body + cntCs x.cases + cntSs x.els := by cases x; rw [cntS]; rfl
theorem cntC_eq (x : CaD) : cntC x = 1 + cntSs x.body := by cases x; rw [cntC]; rfl
theorem cntEs_cut (l : List ExD) (k : Nat) : cntEs l = cntEs (l.take k) + cntEs (l.drop k) := fold_cut (op := (· + ·)) (e := 0) Nat.zero_add Nat.add_assoc (g := cntE) (by rw [cntEs]) (fun x r => by rw [cntEs]) _ _
theorem cntSs_cut (l : List StD) (k : Nat) : cntSs l = cntSs (l.take k) + cntSs (l.drop k) := fold_cut (op := (· + ·)) (e := 0) Nat.zero_add Nat.add_assoc (g := cntS) (by rw [cntSs]) (fun x r => by rw [cntSs]) _ _
theorem cntCs_cut (l : List CaD) (k : Nat) : cntCs l = cntCs (l.take k) + cntCs (l.drop k) := fold_cut (op := (· + ·)) (e := 0) Nat.zero_add Nat.add_assoc (g := cntC) (by rw [cntCs]) (fun x r => by rw [cntCs]) _ _
theorem cntFs_cut (l : List FnD) (k : Nat) : cntFs l = cntFs (l.take k) + cntFs (l.drop k) := fold_cut (op := (· + ·)) (e := 0) Nat.zero_add Nat.add_assoc (g := fun f : FnD => cntSs f.body) (by rw [cntFs]) (fun x r => by rw [cntFs]) _ _
theorem len_cntEs : ∀ l : List ExD, l.length ≤ cntEs l
  | [] => Nat.zero_le _
  | x :: r => by have := len_cntEs r; rw [cntEs, cntE_eq, List.length_cons]; omega
/-! ### Checked -/
/-- The first that is not zero. -/
def orI (a b : Int) : Int := if a ≠ 0 then a else b
theorem orI_z (a : Int) : orI 0 a = a := by simp [orI]
theorem orI_r (a : Int) : orI a 0 = a := by unfold orI; split <;> omega
theorem orI_a (a b c : Int) : orI (orI a b) c = orI a (orI b c) := by
  unfold orI
  repeat' split
  all_goals first | rfl | contradiction
theorem Met.on_l (m : Met) : Met.on ⟨0, 0⟩ m = m := by cases m; simp [Met.on]
theorem Met.on_r (m : Met) : m.on ⟨0, 0⟩ = m := by cases m; simp only [Met.on]; split <;> simp_all
theorem Met.on_a (a b c : Met) : (a.on b).on c = a.on (b.on c) := by
  cases a; cases b; cases c
  simp only [Met.on]
  repeat' split
  all_goals simp_all
  all_goals omega
theorem chkE_eq (x : ExD) (lv : Nat) : chkE x lv = orI (ownE x lv) (chkEs x.args (lv + 1)) := by cases x; rw [chkE]; rfl
theorem chkEs_snoc {l : List ExD} {k lv : Nat} (h : k < l.length) : chkEs (l.take (k + 1)) lv = orI (chkEs (l.take k) lv) (chkE (nthE l k) lv) :=
  fold_snoc (f := fun t => chkEs t lv) (g := fun x => chkE x lv) orI_z orI_r orI_a (by rw [chkEs]) (fun x r => by rw [chkEs]; rfl) _ h
theorem chkEs_cut (l : List ExD) (k lv : Nat) : chkEs l lv = orI (chkEs (l.take k) lv) (chkEs (l.drop k) lv) := fold_cut (f := fun t => chkEs t lv) (g := fun x => chkE x lv) orI_z orI_a (by rw [chkEs]) (fun x r => by rw [chkEs]; rfl) _ _
theorem chkSs_snoc {l : List StD} {k lv : Nat} (h : k < l.length) : chkSs (l.take (k + 1)) lv = (chkSs (l.take k) lv).on (chkS (nthS l k) lv) :=
  fold_snoc (f := fun t => chkSs t lv) (g := fun x => chkS x lv) Met.on_l Met.on_r Met.on_a (by rw [chkSs]) (fun x r => by rw [chkSs]) _ h
theorem chkSs_cut (l : List StD) (k lv : Nat) : chkSs l lv = (chkSs (l.take k) lv).on (chkSs (l.drop k) lv) := fold_cut (f := fun t => chkSs t lv) (g := fun x => chkS x lv) Met.on_l Met.on_a (by rw [chkSs]) (fun x r => by rw [chkSs]) _ _
theorem chkCs_snoc {l : List CaD} {k lv : Nat} (h : k < l.length) : chkCs (l.take (k + 1)) lv = (chkCs (l.take k) lv).on (chkSs (nthC l k).body lv) :=
  fold_snoc (f := fun t => chkCs t lv) (g := fun x : CaD => chkSs x.body lv) Met.on_l Met.on_r Met.on_a (by rw [chkCs]) (fun x r => by rw [chkCs]; cases x; rw [chkC]; rfl) _ h
theorem chkCs_cut (l : List CaD) (k lv : Nat) : chkCs l lv = (chkCs (l.take k) lv).on (chkCs (l.drop k) lv) := fold_cut (f := fun t => chkCs t lv) (g := fun x : CaD => chkSs x.body lv) Met.on_l Met.on_a (by rw [chkCs]) (fun x r => by rw [chkCs]; cases x; rw [chkC]; rfl) _ _
theorem chkS_eq (x : StD) (lv : Nat) : chkS x lv = Met.on ⟨1, if 32 < lv then 20 else ownS x⟩
      (Met.on ⟨0, if cA x.kind then chkE x.a (lv + 1) else 0⟩ (Met.on ⟨0, if cB x.kind then chkE x.b (lv + 1) else 0⟩ (Met.on (chkSs x.body (lv + 1)) (Met.on (chkCs x.cases (lv + 1)) (chkSs x.els (lv + 1)))))) := by
  cases x; rw [chkS]; rfl
/-- What went wrong among the first is what went wrong. -/
theorem chkEs_stop {l : List ExD} {k lv : Nat} (h : chkEs (l.take k) lv ≠ 0) : chkEs l lv = chkEs (l.take k) lv := by rw [chkEs_cut l k, orI, if_pos h]
theorem chkSs_stop {l : List StD} {k lv : Nat} (h : (chkSs (l.take k) lv).e ≠ 0) : chkSs l lv = chkSs (l.take k) lv := by rw [chkSs_cut l k, Met.on, if_pos h]
theorem chkCs_stop {l : List CaD} {k lv : Nat} (h : (chkCs (l.take k) lv).e ≠ 0) : chkCs l lv = chkCs (l.take k) lv := by rw [chkCs_cut l k, Met.on, if_pos h]
/-! ### Printed -/
theorem stTs_snoc {l : List StD} {k d : Nat} (h : k < l.length) : stTs (l.take (k + 1)) d = stTs (l.take k) d ++ stT (nthS l k) d :=
  fold_snoc (op := (· ++ ·)) (e := []) (f := fun t => stTs t d) (g := fun x => stT x d) List.nil_append List.append_nil List.append_assoc (by rw [stTs]) (fun x r => by rw [stTs]) _ h
theorem caTs_snoc {l : List CaD} {k d : Nat} (h : k < l.length) : caTs (l.take (k + 1)) d = caTs (l.take k) d ++ caT (nthC l k) d :=
  fold_snoc (op := (· ++ ·)) (e := []) (f := fun t => caTs t d) (g := fun x => caT x d) List.nil_append List.append_nil List.append_assoc (by rw [caTs]) (fun x r => by rw [caTs]) _ h
theorem fnTs_snoc {l : List FnD} {k : Nat} (h : k < l.length) : fnTs (l.take (k + 1)) = fnTs (l.take k) ++ fnT (nthF l k) :=
  fold_snoc (op := (· ++ ·)) (e := []) (f := fnTs) (g := fnT) List.nil_append List.append_nil List.append_assoc (by rw [fnTs]) (fun x r => by rw [fnTs]) _ h
theorem exTs_len : ∀ l : List ExD, (exTs l).length = l.length
  | [] => by rw [exTs]; rfl
  | x :: r => by rw [exTs, List.length_cons, List.length_cons, exTs_len r]
theorem exTs_get : ∀ {l : List ExD} {k : Nat}, k < l.length → (exTs l).getD k [] = exT (nthE l k)
  | [], k, h => by simp at h
  | x :: r, 0, h => by rw [exTs]; rfl
  | x :: r, k + 1, h => by rw [exTs, List.getD_cons_succ, exTs_get (by simpa using h)]; rfl
theorem exTs_map : ∀ l : List ExD, exTs l = l.map exT
  | [] => by rw [exTs]; rfl
  | x :: r => by rw [exTs, exTs_map r]; rfl
end Go.Proofs.YtdddppmfeoebgaaGreatDoor

/-
  Layer 2 (tree), in plain Lean: what is the same; texts one behind the other; one statement without its kind.
-/
namespace Go.Proofs.YtdddppmfeoebgaaGreatDoor
open Go.RowKit
set_option linter.unusedSimpArgs false
set_option linter.unusedVariables false
/-! ### The same -/
mutual
theorem sameE_iff : ∀ x y : ExD, sameE x y = true ↔ x = y
  | .mk k n s l, .mk k' n' s' l' => by
    rw [sameE, Bool.and_eq_true, Bool.and_eq_true, Bool.and_eq_true, beq_iff_eq, beq_iff_eq, decide_eq_true_iff, sameEs_iff l l', ExD.mk.injEq, and_assoc, and_assoc]
theorem sameEs_iff : ∀ l m : List ExD, sameEs l m = true ↔ l = m
  | [], [] => by simp [sameEs]
  | [], _ :: _ => by simp [sameEs]
  | _ :: _, [] => by simp [sameEs]
  | x :: r, y :: t => by rw [sameEs, Bool.and_eq_true, sameE_iff x y, sameEs_iff r t, List.cons.injEq]
end
mutual
theorem sameS_iff : ∀ x y : StD, sameS x y = true ↔ x = y
  | .mk k s n a b body els cases, .mk k' s' n' a' b' body' els' cases' => by
    rw [sameS]
    simp only [Bool.and_eq_true, beq_iff_eq, decide_eq_true_iff, sameE_iff, sameSs_iff body body', sameSs_iff els els', sameCs_iff cases cases', StD.mk.injEq, and_assoc]
theorem sameC_iff : ∀ x y : CaD, sameC x y = true ↔ x = y
  | .mk n body, .mk n' body' => by rw [sameC, Bool.and_eq_true, beq_iff_eq, sameSs_iff body body', CaD.mk.injEq]
theorem sameSs_iff : ∀ l m : List StD, sameSs l m = true ↔ l = m
  | [], [] => by simp [sameSs]
  | [], _ :: _ => by simp [sameSs]
  | _ :: _, [] => by simp [sameSs]
  | x :: r, y :: t => by rw [sameSs, Bool.and_eq_true, sameS_iff x y, sameSs_iff r t, List.cons.injEq]
theorem sameCs_iff : ∀ l m : List CaD, sameCs l m = true ↔ l = m
  | [], [] => by simp [sameCs]
  | [], _ :: _ => by simp [sameCs]
  | _ :: _, [] => by simp [sameCs]
  | x :: r, y :: t => by rw [sameCs, Bool.and_eq_true, sameC_iff x y, sameCs_iff r t, List.cons.injEq]
end
/-! ### Checked, function by function -/
theorem orI_zero {a b : Int} : orI a b = 0 ↔ a = 0 ∧ b = 0 := by
  unfold orI
  split <;> constructor <;> intro h
  · contradiction
  · exact absurd h.1 (by assumption)
  · rename_i h0; exact ⟨Classical.not_not.1 h0, h⟩
  · exact h.2
theorem Met.on_e {p q : Met} : (p.on q).e = orI p.e q.e := by unfold Met.on orI; split <;> rfl
theorem Met.on_okC {p q : Met} (h : p.e = 0) : p.on q = ⟨p.n + q.n, q.e⟩ := by rw [Met.on, if_neg (by simp [h])]
theorem fnsD_ok : ∀ {l : List FnD} {i : Nat}, (fnsD l i).e = 0 → ∀ k, k < l.length → faceD (nthF l k) = 0 ∧ (chkSs (nthF l k).body 1).e = 0
  | [], i, _, k, hk => by simp at hk
  | f :: r, i, h, k, hk => by
    rw [fnsD] at h
    split at h
    · rename_i h0; exact absurd h h0
    · rename_i h0
      split at h
      · rename_i h1; exact absurd h h1
      · rename_i h1
        cases k with
        | zero => exact ⟨Classical.not_not.1 h0, Classical.not_not.1 h1⟩
        | succ k => exact fnsD_ok h k (by simpa using hk)
theorem fnsD_ok_eq : ∀ {l : List FnD} {i : Nat}, (∀ k, k < l.length → faceD (nthF l k) = 0 ∧ (chkSs (nthF l k).body 1).e = 0) → fnsD l i = ⟨0, 0, 0⟩
  | [], i, _ => by rw [fnsD]
  | f :: r, i, h => by
    rw [fnsD, if_neg fun c => c (h 0 (by simp)).1, if_neg fun c => c (h 0 (by simp)).2]
    exact fnsD_ok_eq fun k hk => h (k + 1) (by simpa using hk)
/-- The first function that is wrong, behind right ones. -/
theorem fnsD_atC : ∀ {l : List FnD} {i k : Nat}, k < l.length → (∀ j, j < k → faceD (nthF l j) = 0 ∧ (chkSs (nthF l j).body 1).e = 0) → faceD (nthF l k) = 0 → (chkSs (nthF l k).body 1).e ≠ 0 →
    fnsD l i = ⟨(chkSs (nthF l k).body 1).e, i + k, (chkSs (nthF l k).body 1).n⟩
  | [], i, k, hk, _, _, _ => by simp at hk
  | f :: r, i, 0, hk, _, h1, h2 => by
    rw [fnsD, if_neg fun c => c h1, if_pos (show (chkSs f.body 1).e ≠ 0 from h2)]; rfl
  | f :: r, i, k + 1, hk, h, h1, h2 => by
    rw [fnsD, if_neg fun c => c (h 0 (by omega)).1, if_neg fun c => c (h 0 (by omega)).2, fnsD_atC (l := r) (i := i + 1) (k := k) (by simpa using hk) (fun j hj => h (j + 1) (by omega)) h1 h2, show i + 1 + k = i + (k + 1) by omega]; rfl
theorem checkD_ok {p : PrD} (h : (checkD p).e = 0) : headD p = 0 ∧ (fnsD p.funcs 0).e = 0 := by
  unfold checkD at h
  split at h
  · rename_i h0; exact absurd h h0
  · rename_i h0; exact ⟨Classical.not_not.1 h0, h⟩
theorem headD_ok {p : PrD} (h : headD p = 0) : p.widen.length ≤ 16 ∧ (p.widen.any (· == least)) = false ∧ risesD p.widen = true ∧ p.funcs.length ≤ 32 ∧ cntFs p.funcs ≤ 4096 := by
  unfold headD at h
  repeat' split at h
  all_goals first | (exact absurd h (by decide)) | skip
  rename_i h1 h2 h3 h4
  exact ⟨by omega, by cases e : p.widen.any (· == least) <;> simp_all, by simpa using h3, by omega, by omega⟩
theorem headD_mk {p : PrD} (h1 : p.widen.length ≤ 16) (h2 : (p.widen.any (· == least)) = false) (h3 : risesD p.widen = true) (h4 : p.funcs.length ≤ 32) (h5 : cntFs p.funcs ≤ 4096) : headD p = 0 := by
  rw [headD, if_neg (by omega), if_neg (by simp [h2]), if_neg (by simp [h3]), if_neg (by omega)]
theorem cntF_le {l : List FnD} {k : Nat} (h : k < l.length) : cntSs (nthF l k).body ≤ cntFs l := by
  have h1 := cntFs_cut l (k + 1)
  have h2 := cntFs_snoc h
  omega
theorem checkD_ok_eq {p : PrD} (h : (checkD p).e = 0) : checkD p = ⟨0, 0, 0⟩ := by
  obtain ⟨h1, h2⟩ := checkD_ok h
  rw [checkD, if_neg (by simp [h1]), fnsD_ok_eq fun k hk => fnsD_ok h2 k hk]
/-! ### Texts one behind the other -/
theorem fnTs_cut (l : List FnD) (k : Nat) : fnTs l = fnTs (l.take k) ++ fnTs (l.drop k) := fold_cut (op := (· ++ ·)) (e := []) (g := fnT) List.nil_append List.append_assoc (by rw [fnTs]) (fun x r => by rw [fnTs]) _ _
/-- One function of a program that has a form. -/
theorem one_ok {p : PrD} (h : (checkD p).e = 0) {k : Nat} (hk : k < p.funcs.length) : checkD ⟨[], [nthF p.funcs k]⟩ = ⟨0, 0, 0⟩ := by
  obtain ⟨h1, h2⟩ := checkD_ok h
  obtain ⟨_, _, _, _, h3⟩ := headD_ok h1
  have h4 := cntF_le hk
  have h5 := headD_mk (p := ⟨[], [nthF p.funcs k]⟩) (by simp) rfl rfl (by simp) (by simp only [cntFs]; omega)
  rw [checkD, if_neg (by simp [h5])]
  refine fnsD_ok_eq fun j hj => ?_
  obtain rfl : j = 0 := by simpa using hj
  exact fnsD_ok h2 k hk
theorem fnT_pos (f : FnD) : fnT f ≠ [] := by
  intro h
  have := congrArg List.length h
  simp [fnT, lineT] at this
theorem print_ok {p : PrD} (h : (printD p).2.e = 0) : checkD p = ⟨0, 0, 0⟩ ∧ printD p = (prT p, ⟨0, 0, 0⟩) ∧ (prT p).length ≤ 65536 := by
  unfold printD at h ⊢
  split at h
  · rename_i h0; exact absurd h h0
  · rename_i h0
    have h1 := checkD_ok_eq (Classical.not_not.1 h0)
    split at h
    · exact absurd h (by simp)
    · rename_i h2
      refine ⟨h1, ?_, by omega⟩
      rw [if_neg h0, if_neg h2]
theorem print_bad {p : PrD} (h : (printD p).2.e ≠ 0) : (printD p).1 = [] ∧ ((printD p).2 = checkD p ∨ (printD p).2 = ⟨4, 0, 0⟩) := by
  unfold printD at h ⊢
  split
  · exact ⟨rfl, .inl rfl⟩
  · rename_i h0
    rw [if_neg h0] at h
    split
    · exact ⟨rfl, .inr rfl⟩
    · rename_i h1
      rw [if_neg h1] at h
      exact absurd rfl h
theorem print_one {p : PrD} (h : (printD p).2.e = 0) {k : Nat} (hk : k < p.funcs.length) : printD ⟨[], [nthF p.funcs k]⟩ = (fnT (nthF p.funcs k), ⟨0, 0, 0⟩) := by
  obtain ⟨h1, h2, h3⟩ := print_ok h
  have h4 := one_ok (by rw [h1]) hk
  have e : prT ⟨[], [nthF p.funcs k]⟩ = fnT (nthF p.funcs k) := by simp [prT, widT, fnTs]
  have hl : (fnT (nthF p.funcs k)).length ≤ (prT p).length := by
    have e1 := fnTs_cut p.funcs (k + 1)
    rw [fnTs_snoc hk] at e1
    rw [prT, e1]
    simp only [List.length_append]
    omega
  rw [printD, h4, if_neg (by simp), e, if_neg (by omega)]
theorem print_wid {p : PrD} (h : (printD p).2.e = 0) : printD ⟨p.widen, []⟩ = (widT p.widen, ⟨0, 0, 0⟩) := by
  obtain ⟨h1, h2, h3⟩ := print_ok h
  obtain ⟨h4, _⟩ := checkD_ok (p := p) (by rw [h1])
  obtain ⟨a1, a2, a3, _, _⟩ := headD_ok h4
  have h5 := headD_mk (p := ⟨p.widen, []⟩) a1 a2 a3 (by simp) (by simp [cntFs])
  have h6 : checkD ⟨p.widen, []⟩ = ⟨0, 0, 0⟩ := by rw [checkD, if_neg (by simp [h5])]; rfl
  have e : prT ⟨p.widen, []⟩ = widT p.widen := by simp [prT, fnTs]
  rw [printD, h6, if_neg (by simp), e, if_neg (by have : (prT p).length = (widT p.widen).length + (fnTs p.funcs).length := by simp [prT]
                                                  omega)]
theorem nodes_ok {p : PrD} (h : (checkD p).e = 0) : nodesD p = cntFs p.funcs := by
  obtain ⟨h1, _⟩ := checkD_ok h
  obtain ⟨_, _, _, _, h5⟩ := headD_ok h1
  rw [nodesD]; omega
theorem nodes_one {p : PrD} (h : (checkD p).e = 0) {k : Nat} (hk : k < p.funcs.length) : nodesD ⟨[], [nthF p.funcs k]⟩ = cntSs (nthF p.funcs k).body := by
  obtain ⟨h1, _⟩ := checkD_ok h
  obtain ⟨_, _, _, _, h5⟩ := headD_ok h1
  have := cntF_le hk
  simp only [nodesD, cntFs]; omega
end Go.Proofs.YtdddppmfeoebgaaGreatDoor

/-
  Layer 2 (tree), in plain Lean: a number's digits, as the reference tells them.
-/
namespace Go.Proofs.YtdddppmfeoebgaaGreatDoor
open Go.RowKit
set_option linter.unusedSimpArgs false
set_option linter.unusedVariables false
theorem numD_one {n : Nat} (h : n < 10) : numD (n : Int) = [UInt8.ofNat (48 + n)] := by
  rw [numD, Lib.itoa_nonneg, Lib.decDigits, dif_pos h]
theorem numD_more {n : Nat} (h : 10 ≤ n) : numD (n : Int) = numD ((n / 10 : Nat) : Int) ++ [UInt8.ofNat (48 + n % 10)] := by
  rw [numD, numD, Lib.itoa_nonneg, Lib.itoa_nonneg, Lib.decDigits, dif_neg (by omega)]
theorem numD_neg {n : Nat} (h : 1 ≤ n) : numD (-(n : Int)) = 45 :: numD (n : Int) := by
  rw [numD, numD, Lib.itoa_neg n h, Lib.itoa_nonneg]
theorem numD_least : numD (-9223372036854775808) = [45, 57, 50, 50, 51, 51, 55, 50, 48, 51, 54, 56, 53, 52, 55, 55, 53, 56, 48, 56] := by
  rw [show (-9223372036854775808 : Int) = -((9223372036854775808 : Nat) : Int) by rfl, numD_neg (by decide)]
  repeat rw [numD_more (by decide)]
  rw [numD_one (by decide)]
  rfl
end Go.Proofs.YtdddppmfeoebgaaGreatDoor

/-
  Layer 2 (tree), in plain Lean: lists compared one by one.
-/
namespace Go.Proofs.YtdddppmfeoebgaaGreatDoor
open Go.RowKit
set_option linter.unusedSimpArgs false
set_option linter.unusedVariables false
theorem ext_get {α : Type} (z : α) : ∀ {l m : List α}, l.length = m.length → (∀ k, k < l.length → l.getD k z = m.getD k z) → l = m
  | [], [], _, _ => rfl
  | [], _ :: _, h, _ => by simp at h
  | _ :: _, [], h, _ => by simp at h
  | x :: r, y :: t, h, hk => by
    have h0 : x = y := hk 0 (by simp)
    rw [h0, ext_get z (l := r) (m := t) (by simpa using h) fun k hl => hk (k + 1) (by simpa using hl)]
theorem same_no {α : Type} {f : List α → List α → Bool} {g : α → α → Bool} (z : α) (hf : ∀ l m, f l m = true ↔ l = m) (hg : ∀ x y, g x y = true ↔ x = y) {l m : List α} {k : Nat} (h : g (l.getD k z) (m.getD k z) = false) : f l m = false := by
  cases e : f l m with
  | false => rfl
  | true =>
    obtain rfl := (hf l m).1 e
    rw [(hg _ _).2 rfl] at h; cases h
theorem same_len {α : Type} {f : List α → List α → Bool} (hf : ∀ l m, f l m = true ↔ l = m) {l m : List α} (h : l.length ≠ m.length) : f l m = false := by
  cases e : f l m with
  | false => rfl
  | true => exact absurd (congrArg List.length ((hf l m).1 e)) h
theorem same_all {α : Type} {f : List α → List α → Bool} {g : α → α → Bool} (z : α) (hf : ∀ l m, f l m = true ↔ l = m) (hg : ∀ x y, g x y = true ↔ x = y) {l m : List α} (hl : l.length = m.length) (h : ∀ k, k < l.length → g (l.getD k z) (m.getD k z) = true) : f l m = true :=
  (hf l m).2 (ext_get z hl fun k hk => (hg _ _).1 (h k hk))
/-! Programs. -/
def samePa (x y : PaD) : Bool := decide (x.name = y.name) && x.lo == y.lo && x.hi == y.hi
def samePas : List PaD → List PaD → Bool
  | [], [] => true
  | x :: r, y :: t => samePa x y && samePas r t
  | _, _ => false
def sameFn (x y : FnD) : Bool := decide (x.name = y.name) && samePas x.params y.params && sameSs x.body y.body
def sameFns : List FnD → List FnD → Bool
  | [], [] => true
  | x :: r, y :: t => sameFn x y && sameFns r t
  | _, _ => false
def sameP (p q : PrD) : Bool := p.widen == q.widen && sameFns p.funcs q.funcs
theorem samePa_iff (x y : PaD) : samePa x y = true ↔ x = y := by
  cases x; cases y; simp only [samePa, Bool.and_eq_true, decide_eq_true_iff, beq_iff_eq, PaD.mk.injEq, and_assoc]
theorem samePas_iff : ∀ l m : List PaD, samePas l m = true ↔ l = m
  | [], [] => by simp [samePas]
  | [], _ :: _ => by simp [samePas]
  | _ :: _, [] => by simp [samePas]
  | x :: r, y :: t => by rw [samePas, Bool.and_eq_true, samePa_iff x y, samePas_iff r t, List.cons.injEq]
theorem sameFn_iff (x y : FnD) : sameFn x y = true ↔ x = y := by
  cases x; cases y; simp only [sameFn, Bool.and_eq_true, decide_eq_true_iff, samePas_iff, sameSs_iff, FnD.mk.injEq, and_assoc]
theorem sameFns_iff : ∀ l m : List FnD, sameFns l m = true ↔ l = m
  | [], [] => by simp [sameFns]
  | [], _ :: _ => by simp [sameFns]
  | _ :: _, [] => by simp [sameFns]
  | x :: r, y :: t => by rw [sameFns, Bool.and_eq_true, sameFn_iff x y, sameFns_iff r t, List.cons.injEq]
theorem sameP_iff (p q : PrD) : sameP p q = true ↔ p = q := by
  cases p; cases q; simp only [sameP, Bool.and_eq_true, beq_iff_eq, sameFns_iff, PrD.mk.injEq]
theorem sameP_self (p : PrD) : sameP p p = true := (sameP_iff p p).2 rfl
theorem sameP_swap (p q : PrD) : sameP q p = sameP p q := by
  rw [Bool.eq_iff_iff, sameP_iff, sameP_iff]; exact eq_comm
end Go.Proofs.YtdddppmfeoebgaaGreatDoor
