/-
  Layer 2 (tree): rows of strings that the call has made itself, one longer at a time.
-/
import Derived.Test.YtdddppmfeoebgaaGreatDoorRank
import Derived.Maps.AppendAt
import Derived.OwnWalk
namespace Go.Proofs.YtdddppmfeoebgaaGreatDoor
open Go.RowKit
set_option linter.unusedSimpArgs false
set_option linter.unusedVariables false
theorem infoS : (Tryz.prog.info? 9).map (fun i => (i.zero, i.size, i.bytes)) = some (some (.string ⟨#[]⟩), 1, 16) := by kernel_rfl
/-- A row of texts of the call's own. -/
abbrev OwnT (w : World) (B : Nat) (v : Value) (l : List (List UInt8)) : Prop := w.ownsRow B 9 1 v l.length (l.map strV)
theorem OwnT.nil (w : World) (B : Nat) : OwnT w B (.slice none 0 0) [] := ⟨rfl, .inl ⟨rfl, rfl⟩⟩
theorem OwnT.slice {w : World} {B : Nat} {v : Value} {l : List (List UInt8)} (h : OwnT w B v l) : ∃ A c, v = .slice A l.length c ∧ l.length ≤ c ∧ StrsAt' w A l := by
  obtain ⟨_, ⟨rfl, e⟩ | ⟨g, cap, cur, rfl, hb, hh, hnc, hm, hs, ht⟩⟩ := h
  · exact ⟨none, 0, by rw [e], by omega, fun h => by omega⟩
  · refine ⟨_, cap, rfl, hnc, fun _ => ⟨g, 0, rfl, ?_, fun k hk => ?_⟩⟩
    · rcases Nat.lt_or_ge g w.heap.size with k | k
      · exact k
      · rw [Array.getElem?_eq_none k] at hh; cases hh
    · have h2 : (l.map strV)[k]? = some (strV (l.getD k [])) := by simp [List.getD_eq_getElem?_getD, hk]
      rw [← ht, List.getElem?_take_of_lt (by omega), Array.getElem?_toList] at h2
      rw [Nat.zero_add]
      simp only [World.cell?, hh]
      simpa using h2
theorem OwnT.keep {w : World} {B g : Nat} {v : Value} {l : List (List UInt8)} {t : TypeId} {cs : Array Value} (h : OwnT w B v l) (hw : Whl w g t cs) (ht : t ≠ 9) : some g ≠ v.ownBlock := fun e => by
  rcases h.2 with ⟨rfl, _⟩ | ⟨g2, cap2, cur2, rfl, _, hh2, _⟩
  · cases e
  · simp only [Value.ownBlock, Option.some.injEq] at e
    subst e
    unfold Whl at hw
    rw [hw] at hh2
    cases hh2
    exact ht rfl
theorem OwnT.base {w : World} {B : Nat} {v : Value} {l : List (List UInt8)} (h : OwnT w B v l) : ∀ k, v.ownBlock = some k → B ≤ k := fun k e => by
  rcases h.2 with ⟨rfl, _⟩ | ⟨g2, cap2, cur2, rfl, hB, _⟩
  · cases e
  · simp only [Value.ownBlock, Option.some.injEq] at e
    omega
theorem OwnT.snoc {w : World} {B : Nat} {v : Value} {l : List (List UInt8)} {t : List UInt8} (h : w.ownsRow B 9 1 v (l.length + 1) (l.map strV ++ [strV t])) : OwnT w B v (l ++ [t]) := by
  unfold OwnT
  rw [List.length_append, List.map_append]
  exact h
theorem OwnT.below {w w' : World} {B : Nat} {v : Value} {l : List (List UInt8)} (h : OwnT w B v l) (hb : Below w.heap.size w w') : OwnT w' B v l := by
  rcases h with ⟨hl, h0 | ⟨g, cap, cur, rfl, hB, hh, hnc, hm, hs, ht⟩⟩
  · exact ⟨hl, .inl h0⟩
  · refine ⟨hl, .inr ⟨g, cap, cur, rfl, hB, (hb.block g ?_).trans hh, hnc, hm, hs, ht⟩⟩
    rcases Nat.lt_or_ge g w.heap.size with k | k
    · exact k
    · rw [Array.getElem?_eq_none k] at hh; cases hh
theorem StrsAt'.below {w w' : World} {A : Option Addr} {l : List (List UInt8)} (h : StrsAt' w A l) (hb : Below w.heap.size w w') : StrsAt' w' A l := fun h0 => by
  obtain ⟨b, off, e, hlt, hc⟩ := h h0
  exact ⟨b, off, e, Nat.lt_of_lt_of_le hlt hb.size, fun k hk => (hb.cell (p := ⟨b, off + k, none⟩) hlt).trans (hc k hk)⟩
theorem exTs_snoc {l : List ExD} {k : Nat} (h : k < l.length) : exTs (l.take (k + 1)) = exTs (l.take k) ++ [exT (nthE l k)] := by
  rw [exTs_map, exTs_map, take_snoc ExD.zero h, List.map_append]; rfl
end Go.Proofs.YtdddppmfeoebgaaGreatDoor
