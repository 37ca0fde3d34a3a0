/-
  Layer 2 (tree): the walk of the printer's line.
-/
import Derived.Test.YtdddppmfeoebgaaGreatDoorPut
namespace Go.Proofs.YtdddppmfeoebgaaGreatDoor
open Go.RowKit
set_option linter.unusedSimpArgs false
set_option linter.unusedVariables false
theorem repeat_two : ∀ n : Nat, Lib.repeatL [32, 32] n = List.replicate (2 * n) 32
  | 0 => rfl
  | n + 1 => by rw [Lib.repeatL, repeat_two n, Nat.mul_succ]; rfl
theorem Prn.go {W W2 : World} {B g : Nat} {l : List UInt8} {d : Int} (h : Prn W B g l d) (hb : Below W.heap.size W W2) : Prn W2 B g l d := by
  obtain ⟨a, v, ha, hp⟩ := h
  exact ⟨a, v, ha, hp.go hb⟩
theorem Prn.alloc {W : World} {B g : Nat} {l : List UInt8} {d : Int} (h : Prn W B g l d) (o : Obj) : Prn (W.alloc o) B g l d := by
  obtain ⟨a, v, ha, hp⟩ := h
  exact ⟨a, v, ha, hp.alloc o⟩
theorem Prn.deep {W : World} {B g : Nat} {l : List UInt8} {d : Int} (h : Prn W B g l d) (e : Int) : Prn (W.setCell ⟨g, 2, none⟩ (.int .i64 e)) B g l e := by
  obtain ⟨a, v, ha, hp⟩ := h
  exact ⟨a, v, ha, hp.deep e⟩
/-- What a walk reads of it: how deep it is. -/
theorem Prn.read {W : World} {B g : Nat} {l : List UInt8} {d : Int} (h : Prn W B g l d) : W.cell? ⟨g, 2, none⟩ = some (.int .i64 d) ∧ W.frozen? ⟨g, 2, none⟩ = false ∧ g < W.heap.size ∧ B ≤ g := by
  obtain ⟨a, v, ha, hp⟩ := h
  exact ⟨hp.whl.cell 2, hp.whl.frozen 2, hp.whl.lt, hp.low⟩
theorem Prn.ne {W : World} {B g b : Nat} {l : List UInt8} {d : Int} {t : TypeId} {cs : Array Value} (h : Prn W B g l d) (hb : Whl W b t cs) (ht : t ≠ 54) : b ≠ g := fun e => by
  subst e
  obtain ⟨a, v, _, hp⟩ := h
  exact ht (hb.type_eq hp.whl)
set_option maxRecDepth 100000 in
set_option maxHeartbeats 1000000 in
theorem lineP (ps : List (List UInt8)) (b c n : Nat) (W : World) (B g : Nat) (l : List UInt8) (h : Prn W B g l (n : Int)) (hB : B ≤ W.heap.size) (hb : Whl W b 9 (ps.map strV).toArray) (hlen : l.length + (lineT n ps.flatten).length ≤ 70368744177664) (hn : ps.length ≤ 1000) :
    Calls Tryz.prog 11 #[.pointer (some ⟨g, 0, none⟩), .slice (some ⟨b, 0, none⟩) ps.length c] W fun e w' => e = .returned (.tuple #[]) ∧ Prn w' B g (l ++ lineT n ps.flatten) (n : Int) ∧ Turn B g W w' := by
  obtain ⟨c2, z2, lg, low⟩ := h.read
  have hbg := h.ne hb (by decide)
  have hl : l.length + (2 * n + (ps.flatten.length + 1)) ≤ 70368744177664 := by simpa [lineT] using hlen
  have H := Lib.hid h
  clear h hlen
  go_enter Tryz.func11, Tryz.ntmps11
  have tk1 := Lib.hid trivial
  go_wp2_with (first
    | (go_at_call 32; go_must (refine (Tryz.strings_Repeat ⟨#[32, 32]⟩ n _ (by omega) (by show 2 * n ≤ _; omega)).mono ?_; rintro e w1 ⟨rfl, hb1⟩; have lg1 := (H.out.go hb1).read.2.2.1; have hw1 := hb.below' hb1))
    | (go_at_call 31; have u1 := tk1; clear tk1; go_must (refine (putP [List.replicate (2 * n) 32] w1.heap.size 1 _ B g l _ ((H.out.go hb1).alloc _) (by rw [show Lib.repeatL (ByteArray.mk #[32, 32]).data.toList n = List.replicate (2 * n) 32 from repeat_two n]; exact Whl.newAt rfl _ _) (by simp; omega) (by simp)).mono ?_; rintro e w2 ⟨rfl, hp2, ht2⟩; have tk2 := Lib.hid trivial; have hw2 := ht2.keep _ _ _ hbg (by decide) (hw1.alloc _)))
    | (go_at_call 31; have u2 := tk2; clear tk2; go_must (refine (putP ps b c _ B g _ _ hp2 hw2 (by rw [List.length_append, List.flatten_singleton, List.length_replicate]; omega) hn).mono ?_; rintro e w3 ⟨rfl, hp3, ht3⟩; have tk3 := Lib.hid trivial))
    | (go_at_call 31; have u3 := tk3; clear tk3; go_must (refine (putP [[10]] w3.heap.size 1 _ B g _ _ (hp3.alloc _) (Whl.newAt rfl _ _) (by rw [List.length_append, List.length_append, List.flatten_singleton, List.flatten_singleton, List.length_replicate]; simp only [List.length_cons, List.length_nil]; omega) (by simp)).mono ?_; rintro e w4 ⟨rfl, hp4, ht4⟩)))
  refine end_of ?_ rfl
  refine ⟨_, by simp [results, Tryz.results11, go_sem], rfl, ?_, ?_⟩
  · have e : l ++ lineT n ps.flatten = ((l ++ [List.replicate (2 * n) 32].flatten) ++ ps.flatten) ++ [[10]].flatten := by simp [lineT]
    rw [e]; exact hp4
  · have t1 := (((Turn.refl B g W).go hB hb1).alloc hB (.cells #[strV (Lib.repeatL (ByteArray.mk #[32, 32]).data.toList n)] 9)).trans ht2
    exact ((t1.trans ht3).alloc hB _).trans ht4
end Go.Proofs.YtdddppmfeoebgaaGreatDoor
