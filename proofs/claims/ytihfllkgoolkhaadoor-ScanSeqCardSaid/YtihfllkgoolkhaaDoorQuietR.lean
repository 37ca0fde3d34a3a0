/-
  A region that draws its order, reads alone and lies in a round of a range over a function: one walk in the order of the text. No idea of the program stands in it.
-/
import Derived.Test.YtihfllkgoolkhaaDoorSeqT
import Derived.Sort.QuietIn
namespace Go.Proofs.YtihfllkgoolkhaaDoor
open Go.RowKit
set_option linter.unusedSimpArgs false
set_option linter.unusedVariables false
section
variable {F : Fence} {n : Nat} {P : Program} {Q : Exit → Act → World → Prop} {md : Region.Mode} {ops : Array Oper} {l : Nat}
theorem opIn_round {o : Oper} {a : Act} {w : World} {K : Act → World → Prop} (hro : F.round = none) (hd : ∀ c, o.op ≠ .defer c) (h : o.wpIn F n P a w K Q) : o.wpIn (F.inRound l) n P a w K Q := by
  unfold Oper.wpIn at *
  refine ⟨h.1, ?_⟩
  have h2 := h.2
  rw [hro, Oper.semAt_none] at h2
  rw [show (F.inRound l).round = some l from rfl, Oper.semAt_some _ _ _ hd]
  generalize (execOp a.eval o).run P w = r at *
  cases r with
  | ok x w' => cases x <;> exact h2
  | halt x w' => cases x <;> exact h2
def noDefer (ops : Array Oper) : Bool := ops.toList.all fun o => match o.op with | .defer _ => false | _ => true
theorem noDefer_of (h : noDefer ops = true) {i : Nat} {o : Oper} (ho : ops[i]? = some o) : ∀ c, o.op ≠ .defer c := fun c e => by
  have hm : o ∈ ops.toList := by
    rw [Array.mem_toList_iff]; exact Array.mem_of_getElem? ho
  have := List.all_eq_true.1 h o hm
  rw [e] at this; cases this
theorem opNIn_round (hro : F.round = none) (hd : noDefer ops = true) {i : Nat} {K K' : Act → World → Prop} (hK : ∀ a w, K a w → K' a w) {a : Act} {w : World} (h : wpOpIn F n P ops Q i K a w) : wpOpIn (F.inRound l) n P ops Q i K' a w := by
  have h := wpOpIn_mono hK h
  unfold wpOpIn at *
  cases ho : ops[i]? with
  | none => rw [ho] at h; exact h
  | some o =>
    rw [ho] at h
    simp only at h ⊢
    split
    · rename_i hw; rw [if_pos hw] at h; exact opIn_round hro (noDefer_of hd ho) h
    · rename_i hw; rw [if_neg hw] at h; exact h
theorem anyIn_round (hro : F.round = none) (hd : noDefer ops = true) : ∀ (fuel : Nat) (listed : Array Bool) (a : Act) (w : World), wpAnyIn F n P md ops Q fuel listed a w → wpAnyIn (F.inRound l) n P md ops Q fuel listed a w
  | 0, _, _, _, h => h
  | fuel + 1, listed, a, w, h => ⟨h.1, fun i hi => opNIn_round hro hd (fun a w h => anyIn_round hro hd fuel _ a w h) (h.2 i hi)⟩
theorem quiet_round {id : Nat} {a : Act} {w : World} {l' : List Oper} (hro : F.round = none) (hm : P.follows .mixedOrders = true) (hB : Region.lexB .any l'.toArray = true) (hd : noDefer l'.toArray = true)
    (h : wpQuietIn F n P l'.toArray (fun w' => ∃ n, w' = w.drewN n) (fun a' => ∀ w', (∃ n, w' = w.drewN n) → Q .normal a' w') l' a) : (Code.region id l'.toArray true).wpIn (F.inRound l) n P Q a w := by
  simp only [Region.lexB, Bool.and_eq_true] at hB
  refine wpIn_region_any hm (anyIn_round hro hd _ _ _ _ (wpAnyIn_of_quiet (Q := fun a' => ∀ w', (∃ n, w' = w.drewN n) → Q .normal a' w') hro (fun _ w' hw' h => h w' hw') _ _ _ _ ⟨1, rfl⟩ ?_))
  have := wpAnyQIn_lex (F := F) (n := n) (C := fun w' => ∃ n, w' = w.drewN n) (md := .any) hB.1 l' 0 (Array.replicate l'.toArray.size false) a (by simp) (by simpa using hB.2) (by simpa using h)
  simpa using this
end
end Go.Proofs.YtihfllkgoolkhaaDoor
