/-
  Layer 7 (wide): rows of the call's own that are stored to; products of rows of digits, in plain Lean.
-/
import Derived.Test.YtofibaomjidieaaDoorAddR
import Derived.Laws.OwnMore
namespace Go.Proofs.YtofibaomjidieaaDoor
open Go.RowKit
set_option linter.unusedSimpArgs false
set_option linter.unusedVariables false
theorem OMem.stay {w W W2 : World} {B : Nat} {v : Value} {l : List Nat} (h : OMem w B v l W) (hb : Below W.heap.size W W2) : OMem w B v l W2 := by
  refine ⟨below_step h.below hb, ⟨h.own.1, ?_⟩, ?_, h.base⟩
  · rcases h.own.2 with q | ⟨g, cap, cur, rfl, hB, hg, rest⟩
    · exact .inl q
    · refine .inr ⟨g, cap, cur, rfl, hB, ?_, rest⟩
      have hlt : g < W.heap.size := by
        rcases Nat.lt_or_ge g W.heap.size with q | q
        · exact q
        · rw [Array.getElem?_eq_none q] at hg; cases hg
      exact (hb.block g hlt).trans hg
  · have := hb.size; have := h.size; omega
theorem OMem.rebase {w W W2 : World} {B : Nat} {v : Value} {l : List Nat} (h : OMem W B v l W2) (hb : Below w.heap.size w W) : OMem w B v l W2 := by
  have := hb.size
  exact ⟨below_step hb (h.below), h.own, h.size, by have := h.base; omega⟩
theorem OMem.put {w W : World} {B g c j d : Nat} {l : List Nat} (h : OMem w B (.slice (some ⟨g, 0, none⟩) l.length c) l W) : OMem w B (.slice (some ⟨g, 0, none⟩) (l.set j d).length c) (l.set j d) (W.setCell ⟨g, j, none⟩ (.int .u64 (d : Int))) := by
  have hs := h.own.stored j (.int .u64 (d : Int))
  have hg := (h.own.lt g rfl).1
  refine ⟨h.below.setCell (p := ⟨g, j, none⟩) (Nat.le_trans h.base hg) _, ?_, ?_, h.base⟩
  · have e : U64s (l.set j d) = (U64s l).set j (.int .u64 (d : Int)) := by simp [U64s, List.map_set]
    rw [e, List.length_set]
    exact hs.1
  · have := h.size; simpa using this
theorem DRow.far {w : World} {g : Nat} {l : List Nat} (h : DRow w g l) {p : Addr} (hp : g ≠ p.block) (u : Value) : DRow (w.setCell p u) g l := by
  refine ⟨by have := h.lt; simpa using this, fun k hk => ?_⟩
  have e : (w.setCell p u).cell? ⟨g, k, none⟩ = w.cell? ⟨g, k, none⟩ := World.cell?_of_block (w := w) (w' := w.setCell p u) (Below.heap_setCell w p u g hp)
  rw [e]; exact h.at_ k hk
theorem DRow.drew {w : World} {g : Nat} {l : List Nat} (h : DRow w g l) : DRow w.drew g l := ⟨h.lt, h.at_⟩
theorem nth_set (l : List Nat) (k v j : Nat) : nth (l.set k v) j = if j = k ∧ k < l.length then v else nth l j := by
  simp only [nth, List.getD, List.getElem?_set]
  by_cases e : j = k
  · subst e
    by_cases h : j < l.length
    · simp [h]
    · simp [h]
  · simp [e, Ne.symm e]
theorem val_set {l : List Nat} {k : Nat} (h : k < l.length) (v : Nat) : valD (l.set k v) + 65536 ^ k * nth l k = valD l + 65536 ^ k * v := by
  induction l generalizing k with
  | nil => simp at h
  | cons d l ih =>
    cases k with
    | zero => simp [valD, nth]; omega
    | succ k =>
      have := ih (k := k) (by simpa using h)
      have e : nth (d :: l) (k + 1) = nth l k := by simp [nth]
      simp only [List.set_cons_succ, valD, e, Nat.pow_succ, Nat.mul_comm _ 65536, Nat.mul_assoc]
      omega
theorem valD_replicate (n : Nat) : valD (List.replicate n 0) = 0 := valD_zero fun d hd => (List.mem_replicate.1 hd).2
theorem nth_replicate (n j : Nat) : nth (List.replicate n 0) j = 0 := by
  simp only [nth, List.getD, List.getElem?_replicate]
  split <;> rfl
/-- The row of one digit times a row: how far it is filled. -/
structure RowOk (i x : Nat) (y : List Nat) (k : Nat) (R : List Nat) : Prop where
  len : R.length = 16
  val : valD R = 65536 ^ i * x * valD (y.take k)
  zero : ∀ j, i + k ≤ j → nth R j = 0
  small : ∀ j, nth R j < 4294967296
theorem RowOk.start (i x : Nat) (y : List Nat) : RowOk i x y 0 (List.replicate 16 0) := ⟨by simp, by rw [valD_replicate]; simp [valD], fun j _ => nth_replicate _ _, fun j => by rw [nth_replicate]; decide⟩
theorem mul_small {x y : Nat} (hx : x < 65536) (hy : y < 65536) : x * y < 4294967296 := by
  have := Nat.mul_le_mul (Nat.le_pred_of_lt hx) (Nat.le_pred_of_lt hy)
  exact Nat.lt_of_le_of_lt this (by decide)
theorem RowOk.step {i x k : Nat} {y R : List Nat} (h : RowOk i x y k R) (hi : i + k < 16) (hk : k < y.length) (hx : x < 65536) (hy : nth y k < 65536) : RowOk i x y (k + 1) (R.set (i + k) (x * nth y k)) := by
  refine ⟨by simpa using h.len, ?_, fun j hj => ?_, fun j => ?_⟩
  · have := val_set (l := R) (k := i + k) (by rw [h.len]; exact hi) (x * nth y k)
    rw [h.zero (i + k) (Nat.le_refl _), Nat.mul_zero, Nat.add_zero, h.val] at this
    rw [this, val_take hk, Nat.mul_add, Nat.pow_add]
    simp only [Nat.mul_comm, Nat.mul_left_comm, Nat.mul_assoc]
  · rw [nth_set, if_neg (by omega)]
    exact h.zero j (by omega)
  · rw [nth_set]
    split
    · exact mul_small hx hy
    · exact h.small j
/-- The sum of two rows, as far as it is added. -/
structure AddTo (L R : List Nat) (k : Nat) (M : List Nat) : Prop where
  len : M.length = L.length
  val : valD M = valD L + valD (R.take k)
  rest : ∀ j, k ≤ j → nth M j = nth L j
  small : ∀ j, nth M j < 8589934592
theorem AddTo.start {L : List Nat} (R : List Nat) (h : Digs L) : AddTo L R 0 L := ⟨rfl, by simp [valD], fun j _ => rfl, fun j => by have := nth_lt h j; omega⟩
theorem AddTo.step {L R M : List Nat} {k : Nat} (h : AddTo L R k M) (hL : Digs L) (hk : k < L.length) (hr : k < R.length) (hs : nth R k < 4294967296) : AddTo L R (k + 1) (M.set k (nth M k + nth R k)) := by
  refine ⟨by simpa using h.len, ?_, fun j hj => ?_, fun j => ?_⟩
  · have := val_set (l := M) (k := k) (by rw [h.len]; exact hk) (nth M k + nth R k)
    rw [h.val, Nat.mul_add] at this
    rw [val_take hr]
    omega
  · rw [nth_set, if_neg (by omega)]
    exact h.rest j (by omega)
  · rw [nth_set]
    split
    · have := h.rest k (Nat.le_refl _); have := nth_lt hL k; omega
    · exact h.small j
end Go.Proofs.YtofibaomjidieaaDoor
