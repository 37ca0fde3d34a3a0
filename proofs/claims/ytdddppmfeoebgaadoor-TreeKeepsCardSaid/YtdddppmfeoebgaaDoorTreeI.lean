/-
  Layer 2 (tree), in plain Lean: lists compared one by one.
-/
import Derived.Test.YtdddppmfeoebgaaDoorTreeC
namespace Go.Proofs.YtdddppmfeoebgaaDoor
open Go.RowKit
set_option linter.unusedSimpArgs false
set_option linter.unusedVariables false
theorem ext_get {α : Type} (z : α) : ∀ {l m : List α}, l.length = m.length → (∀ k, k < l.length → l.getD k z = m.getD k z) → l = m
  | [], [], _, _ => rfl
  | [], _ :: _, h, _ => by simp at h
  | _ :: _, [], h, _ => by simp at h
  | x :: r, y :: t, h, hk => by
    have h0 : x = y := hk 0 (by simp)
    rw [h0, ext_get z (l := r) (m := t) (by simpa using h) fun k hl => hk (k + 1) (by simpa using hl)]
theorem same_no {α : Type} {f : List α → List α → Bool} {g : α → α → Bool} (z : α) (hf : ∀ l m, f l m = true ↔ l = m) (hg : ∀ x y, g x y = true ↔ x = y) {l m : List α} {k : Nat} (h : g (l.getD k z) (m.getD k z) = false) : f l m = false := by
  cases e : f l m with
  | false => rfl
  | true =>
    obtain rfl := (hf l m).1 e
    rw [(hg _ _).2 rfl] at h; cases h
theorem same_len {α : Type} {f : List α → List α → Bool} (hf : ∀ l m, f l m = true ↔ l = m) {l m : List α} (h : l.length ≠ m.length) : f l m = false := by
  cases e : f l m with
  | false => rfl
  | true => exact absurd (congrArg List.length ((hf l m).1 e)) h
theorem same_all {α : Type} {f : List α → List α → Bool} {g : α → α → Bool} (z : α) (hf : ∀ l m, f l m = true ↔ l = m) (hg : ∀ x y, g x y = true ↔ x = y) {l m : List α} (hl : l.length = m.length) (h : ∀ k, k < l.length → g (l.getD k z) (m.getD k z) = true) : f l m = true :=
  (hf l m).2 (ext_get z hl fun k hk => (hg _ _).1 (h k hk))
/-! Programs. -/
def samePa (x y : PaD) : Bool := decide (x.name = y.name) && x.lo == y.lo && x.hi == y.hi
def samePas : List PaD → List PaD → Bool
  | [], [] => true
  | x :: r, y :: t => samePa x y && samePas r t
  | _, _ => false
def sameFn (x y : FnD) : Bool := decide (x.name = y.name) && samePas x.params y.params && sameSs x.body y.body
def sameFns : List FnD → List FnD → Bool
  | [], [] => true
  | x :: r, y :: t => sameFn x y && sameFns r t
  | _, _ => false
def sameP (p q : PrD) : Bool := p.widen == q.widen && sameFns p.funcs q.funcs
theorem samePa_iff (x y : PaD) : samePa x y = true ↔ x = y := by
  cases x; cases y; simp only [samePa, Bool.and_eq_true, decide_eq_true_iff, beq_iff_eq, PaD.mk.injEq, and_assoc]
theorem samePas_iff : ∀ l m : List PaD, samePas l m = true ↔ l = m
  | [], [] => by simp [samePas]
  | [], _ :: _ => by simp [samePas]
  | _ :: _, [] => by simp [samePas]
  | x :: r, y :: t => by rw [samePas, Bool.and_eq_true, samePa_iff x y, samePas_iff r t, List.cons.injEq]
theorem sameFn_iff (x y : FnD) : sameFn x y = true ↔ x = y := by
  cases x; cases y; simp only [sameFn, Bool.and_eq_true, decide_eq_true_iff, samePas_iff, sameSs_iff, FnD.mk.injEq, and_assoc]
theorem sameFns_iff : ∀ l m : List FnD, sameFns l m = true ↔ l = m
  | [], [] => by simp [sameFns]
  | [], _ :: _ => by simp [sameFns]
  | _ :: _, [] => by simp [sameFns]
  | x :: r, y :: t => by rw [sameFns, Bool.and_eq_true, sameFn_iff x y, sameFns_iff r t, List.cons.injEq]
theorem sameP_iff (p q : PrD) : sameP p q = true ↔ p = q := by
  cases p; cases q; simp only [sameP, Bool.and_eq_true, beq_iff_eq, sameFns_iff, PrD.mk.injEq]
theorem sameP_self (p : PrD) : sameP p p = true := (sameP_iff p p).2 rfl
theorem sameP_swap (p q : PrD) : sameP q p = sameP p q := by
  rw [Bool.eq_iff_iff, sameP_iff, sameP_iff]; exact eq_comm
end Go.Proofs.YtdddppmfeoebgaaDoor
