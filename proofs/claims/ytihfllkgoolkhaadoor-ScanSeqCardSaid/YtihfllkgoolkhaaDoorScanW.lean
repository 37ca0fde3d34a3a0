/-
  Layer 1 (scan): the walk of the reference's signs; the first sign of its list that stands at a place.
-/
import Derived.Test.YtihfllkgoolkhaaDoorScanV
namespace Go.Proofs.YtihfllkgoolkhaaDoor
open Go.RowKit
set_option linter.unusedSimpArgs false
set_option linter.unusedVariables false
def twoS : List ByteArray := [⟨#[61, 61]⟩, ⟨#[33, 61]⟩, ⟨#[60, 61]⟩, ⟨#[62, 61]⟩, ⟨#[38, 38]⟩, ⟨#[124, 124]⟩, ⟨#[46, 46]⟩]
def oneS : List ByteArray := [⟨#[40]⟩, ⟨#[41]⟩, ⟨#[123]⟩, ⟨#[125]⟩, ⟨#[91]⟩, ⟨#[93]⟩, ⟨#[44]⟩, ⟨#[59]⟩, ⟨#[58]⟩, ⟨#[63]⟩, ⟨#[61]⟩, ⟨#[60]⟩, ⟨#[62]⟩, ⟨#[43]⟩, ⟨#[45]⟩, ⟨#[42]⟩, ⟨#[47]⟩, ⟨#[37]⟩, ⟨#[33]⟩]
def signsS : List ByteArray := twoS ++ oneS
theorem signsR (w : World) : Calls Tryd.prog 38 #[] w fun e w' => e = .returned (.slice (some ⟨w.heap.size, 0, none⟩) 26 26) ∧ Whl w' w.heap.size 9 (signsS.map Value.string).toArray ∧ Below w.heap.size w w' := by
  go_enter Tryd.func38, Tryd.ntmps38
  go_wp2
  go_ret
  exact ⟨by first | rfl | simp, Whl.new _ _ _, below_alloc (Below.refl _ _) _⟩
/-- How long the first sign of a list is that stands at place k; 0: none does. -/
def signF (L : List UInt8) (k : Nat) : List ByteArray → Nat
  | [] => 0
  | x :: l => if (L.drop k).take x.size = x.data.toList then x.size else signF L k l
theorem signF_run {L : List UInt8} {k n : Nat} {r : List ByteArray} : ∀ l : List ByteArray, (∀ x ∈ l, x.size = n) → signF L k (l ++ r) = if l.any (fun x => x.data.toList == (L.drop k).take n) then n else signF L k r
  | [], _ => rfl
  | x :: l, h => by
    have h1 := h x (List.mem_cons_self ..)
    rw [List.cons_append, signF, h1, List.any_cons, signF_run l (fun y hy => h y (List.mem_cons_of_mem _ hy))]
    by_cases he : (L.drop k).take n = x.data.toList
    · rw [if_pos he, he]; simp
    · rw [if_neg he, show (x.data.toList == (L.drop k).take n) = false by simpa using fun e => he e.symm]; rfl
theorem signF_signs {L : List UInt8} {k : Nat} (h : k < L.length) : signF L k signsS = signD L k := by
  have h2 : ∀ x ∈ twoS, x.size = 2 := by intro x hx; simp only [twoS, List.mem_cons, List.not_mem_nil, or_false] at hx; rcases hx with rfl | rfl | rfl | rfl | rfl | rfl | rfl <;> rfl
  have h1 : ∀ x ∈ oneS, x.size = 1 := by intro x hx; simp only [oneS, List.mem_cons, List.not_mem_nil, or_false] at hx; rcases hx with rfl | rfl | rfl | rfl | rfl | rfl | rfl | rfl | rfl | rfl | rfl | rfl | rfl | rfl | rfl | rfl | rfl | rfl | rfl <;> rfl
  have e1 : signF L k oneS = if oneB (L.getD k 0) then 1 else 0 := by
    have := signF_run (L := L) (k := k) (r := []) oneS h1
    rw [List.append_nil] at this
    rw [this, drop_get h]
    simp only [oneS, oneB, oneL, List.any_cons, List.any_nil, Bool.or_false, List.take_succ_cons, List.take_zero, List.cons_beq_cons, beq_self_eq_true, Bool.and_true, signF]
  rw [signsS, signF_run twoS h2, e1, signD]
  rfl
theorem signF_yes {s : ByteArray} {k j : Nat} (h : j < signsS.length) (he : ((s.extract k (k + signsS[j].size)).toList == signsS[j].toList) = true) : signF (bytesOf s) k (signsS.drop j) = signsS[j].size := by
  rw [ByteArray.toList_eq, ByteArray.toList_eq, beq_iff_eq, cut_ext, show k + signsS[j].size - k = signsS[j].size by omega] at he
  rw [List.drop_eq_getElem_cons h, signF, if_pos he]
theorem signF_no {s : ByteArray} {k j : Nat} (h : j < signsS.length) (he : ((s.extract k (k + signsS[j].size)).toList == signsS[j].toList) = false) : signF (bytesOf s) k (signsS.drop j) = signF (bytesOf s) k (signsS.drop (j + 1)) := by
  rw [ByteArray.toList_eq, ByteArray.toList_eq, beq_eq_false_iff_ne, ne_eq, cut_ext, show k + signsS[j].size - k = signsS[j].size by omega] at he
  rw [List.drop_eq_getElem_cons h, signF, if_neg he]
theorem signF_short {s : ByteArray} {k j : Nat} (h : j < signsS.length) (he : s.size < k + signsS[j].size) (hk : k ≤ s.size) : signF (bytesOf s) k (signsS.drop j) = signF (bytesOf s) k (signsS.drop (j + 1)) := by
  rw [List.drop_eq_getElem_cons h, signF, if_neg]
  intro e
  have := congrArg List.length e
  rw [List.length_take, List.length_drop, bytes_len] at this
  have h2 : signsS[j].data.toList.length = signsS[j].size := rfl
  omega
theorem signs_size {j : Nat} (h : j < signsS.length) : 1 ≤ signsS[j].size ∧ signsS[j].size ≤ 2 := by
  have : ∀ x ∈ signsS, 1 ≤ x.size ∧ x.size ≤ 2 := by
    intro x hx
    simp only [signsS, twoS, oneS, List.cons_append, List.nil_append, List.mem_cons, List.not_mem_nil, or_false] at hx
    rcases hx with rfl | rfl | rfl | rfl | rfl | rfl | rfl | rfl | rfl | rfl | rfl | rfl | rfl | rfl | rfl | rfl | rfl | rfl | rfl | rfl | rfl | rfl | rfl | rfl | rfl | rfl <;> decide
  exact this _ (List.getElem_mem h)
end Go.Proofs.YtihfllkgoolkhaaDoor
