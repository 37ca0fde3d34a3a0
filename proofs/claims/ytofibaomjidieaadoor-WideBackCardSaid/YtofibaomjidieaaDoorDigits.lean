/-
  Layer 7 (wide): rows of digits of the call's own; the walk of the reference's digits.
-/
import Derived.Test.YtofibaomjidieaaDoorWide
import Derived.Test.YtofibaomjidieaaDoorKeepB
import Derived.Deep.AppendLies
import Derived.LoopTactic
import Derived.Laws.Shifts
import Derived.Maps.AppendAt
import Derived.OwnWalk
namespace Go.Proofs.YtofibaomjidieaaDoor
open Go.RowKit
set_option linter.unusedSimpArgs false
set_option linter.unusedVariables false
def dig (n k : Nat) : Nat := n / 65536 ^ k % 65536
def digsOf (n k : Nat) : List Nat := (List.range k).map (dig n)
theorem digsOf_len (n k : Nat) : (digsOf n k).length = k := by simp [digsOf]
theorem digsOf_succ (n k : Nat) : digsOf n (k + 1) = digsOf n k ++ [dig n k] := by simp [digsOf, List.range_succ]
def U64s (l : List Nat) : List Value := l.map fun (d : Nat) => (.int .u64 (d : Int) : Value)
theorem U64s_app (l : List Nat) (d : Nat) : U64s (l ++ [d]) = U64s l ++ [.int .u64 (d : Int)] := by simp [U64s]
theorem infoU : (Tryd.prog.info? 22).map (fun i => (i.zero, i.size, i.bytes)) = some (some (.int .u64 0), 1, 8) := by kernel_rfl
theorem and_low16 (z : Int) (h0 : 0 ≤ z) (h1 : z < 18446744073709551616) : bits .and .u64 z 65535 = z % 65536 := by go_bits2
theorem and_dig (n k : Nat) (hn : n < 18446744073709551616) : bits .and .u64 ((n : Int) / 2 ^ (16 * k)) 65535 = ((dig n k : Nat) : Int) := by
  have e : (n : Int) / 2 ^ (16 * k) = ((n / 65536 ^ k : Nat) : Int) := by
    rw [show (65536 : Nat) = 2 ^ 16 by decide, ← Nat.pow_mul]; simp
  rw [e, and_low16 _ (Int.natCast_nonneg _) (by have := Nat.div_le_self n (65536 ^ k); omega)]
  simp [dig]
/-- A row of numbers of the call's own, all its blocks at B or above, and what lay there before has not turned. -/
structure OMem (w : World) (B : Nat) (v : Value) (l : List Nat) (W : World) : Prop where
  below : Below w.heap.size w W
  own : W.ownsRow B 22 1 v l.length (U64s l)
  size : B ≤ W.heap.size
  base : w.heap.size ≤ B
theorem OMem.app {w W w2 : World} {B : Nat} {v v2 : Value} {l : List Nat} {n2 : Nat} {xs : List Value} {d : Nat} {o : Obj} (h : OMem w B v l W) (hg : (W.alloc o).grownBy w2 v.ownBlock)
    (hn : n2 = l.length + 1) (hx : xs = U64s l ++ [.int .u64 (d : Int)]) (hown : w2.ownsRow B 22 1 v2 n2 xs) : OMem w B v2 (l ++ [d]) w2 := by
  subst hn hx
  have hr : ∀ k, v.ownBlock = some k → w.heap.size ≤ k := fun k hk => Nat.le_trans h.base (h.own.lt k hk).1
  refine ⟨(below_alloc h.below o).grown hg (below_alloc h.below o).size hr, ?_, ?_, h.base⟩
  · rw [U64s_app]; simpa using hown
  · have := hg.size; have := h.size; simp at *; omega
theorem OMem.lower {w W : World} {B C : Nat} {v : Value} {l : List Nat} (h : OMem w B v l W) (h1 : w.heap.size ≤ C) (h2 : C ≤ B) : OMem w C v l W := by
  refine ⟨h.below, ⟨h.own.1, ?_⟩, Nat.le_trans h2 h.size, h1⟩
  rcases h.own.2 with q | ⟨g, cap, cur, rfl, hb, rest⟩
  · exact .inl q
  · exact .inr ⟨g, cap, cur, rfl, Nat.le_trans h2 hb, rest⟩
theorem OMem.whl {w W w2 : World} {B g : Nat} {v : Value} {l : List Nat} {t : TypeId} {cs : Array Value} {o : Obj} (h : OMem w B v l W) (hg : (W.alloc o).grownBy w2 v.ownBlock) (p : Whl W g t cs) (hgB : g < B) : Whl w2 g t cs :=
  (p.alloc o).grown hg fun e => by have := (h.own.lt g e.symm).1; omega
set_option maxHeartbeats 4000000 in
theorem digitsR (a : Wd) (ha : a.Wf) (w : World) : Calls Tryd.prog 28 #[a.v] w fun e w' => ∃ v, e = .returned v ∧ OMem w w.heap.size v (digsOf a.lo 4 ++ digsOf a.hi 4) w' := by
  have h1 := ha.hi; have h2 := ha.lo
  obtain ⟨i0, hi, hz0, hz1, hz2⟩ := info_parts infoU
  go_enter Tryd.func28, Tryd.ntmps28
  go_wp2
  go_loopw [3, 4] (fun v i wr => ∃ k : Nat, k ≤ 4 ∧ i = .int .i64 k ∧ OMem w (w.heap.size + 1) v (digsOf a.lo k) wr ∧ Whl wr w.heap.size 24 #[.int .u64 (a.hi : Int), .int .u64 (a.lo : Int)]) (fun _ i _ => 4 - (intOf i).toNat)
  case atStart =>
    refine ⟨0, by omega, rfl, ⟨below_alloc (below_alloc (Below.refl _ _) _) _, ?_, by simp, by omega⟩, (Whl.new _ _ _).alloc _⟩
    have h0 := World.ownsRow_made (base := w.heap.size + 1) (e := 22) (size := 1) (w.alloc (.cells #[.int .u64 (a.hi : Int), .int .u64 (a.lo : Int)] 24)) #[] 0 (by simp) (by decide) rfl
    rw [World.size_alloc] at h0
    exact h0
  case round =>
    obtain ⟨k, hk, rfl, hM, pa⟩ := hrel
    have a0 := pa.cell 0
    have a1 := pa.cell 1
    have l0 := pa.lt
    have hd := and_dig a.lo k h2
    have hd2 := digsOf_succ a.lo k
    have hlen : (digsOf a.lo k).length = k := by simp [digsOf_len]
    by_cases hlt : k < 4
    · go_wp2_with (
        at_builtin
        refine wpList_append_lies _ rfl _ _ _ rfl (w.heap.size + 1) 22 i0 (.int .u64 0) 1 8 Tryd.underlying47 hi hz0 hz1 hz2 rfl (by decide) _ _ _ rfl (hM.own.alloc _) ⟨wr.heap.size, 0, none⟩ 1 1 [.int .u64 ((dig a.lo k : Nat) : Int)] rfl ?c1 ?c2 ?c3 ?c4 ?c5 ?c6 ?c7 _ rfl ?_
        case c1 => rfl
        case c2 => exact cell_one_new wr (.int .u64 ((dig a.lo k : Nat) : Int)) 22
        case c3 => simp [Value.oneCell']
        case c4 => decide
        case c5 => unfold maxLen; omega
        case c6 => omega
        case c7 => simp; have := hM.size; omega
        intro g cap w2 hown hgrow hat hlt2
        have pa2 := hM.whl hgrow pa (by omega)
        have hM2 := hM.app hgrow rfl rfl hown
        simp only [hlen] at hM2)
      go_roundw
      case rel => exact ⟨k + 1, by omega, by go_num, by rw [hd2]; exact hM2, pa2⟩
      case measure => simp [intOf]; omega
    · have hk4 : k = 4 := by omega
      have hki : (k : Int) = 4 := by omega
      rw [hk4] at hM
      rw [hki]
      clear hd hd2 hlen a0 a1 l0 hki hk4 hlt hk
      go_wp2
      go_loopw [3, 5] (fun v i wr => ∃ k : Nat, k ≤ 4 ∧ i = .int .i64 k ∧ OMem w (w.heap.size + 1) v (digsOf a.lo 4 ++ digsOf a.hi k) wr ∧ Whl wr w.heap.size 24 #[.int .u64 (a.hi : Int), .int .u64 (a.lo : Int)]) (fun _ i _ => 4 - (intOf i).toNat)
      case atStart => exact ⟨0, by omega, rfl, by simpa [digsOf] using hM, pa⟩
      case round =>
        obtain ⟨k, hk, rfl, hM, pa⟩ := hrel
        have a0 := pa.cell 0
        have a1 := pa.cell 1
        have l0 := pa.lt
        have hd := and_dig a.hi k h1
        have hd2 : digsOf a.lo 4 ++ digsOf a.hi (k + 1) = (digsOf a.lo 4 ++ digsOf a.hi k) ++ [dig a.hi k] := by rw [digsOf_succ a.hi k, List.append_assoc]
        have hlen : (digsOf a.lo 4 ++ digsOf a.hi k).length = 4 + k := by simp [digsOf_len]
        by_cases hlt : k < 4
        · go_wp2_with (
            at_builtin
            refine wpList_append_lies _ rfl _ _ _ rfl (w.heap.size + 1) 22 i0 (.int .u64 0) 1 8 Tryd.underlying47 hi hz0 hz1 hz2 rfl (by decide) _ _ _ rfl (hM.own.alloc _) ⟨wr.heap.size, 0, none⟩ 1 1 [.int .u64 ((dig a.hi k : Nat) : Int)] rfl ?c1 ?c2 ?c3 ?c4 ?c5 ?c6 ?c7 _ rfl ?_
            case c1 => rfl
            case c2 => exact cell_one_new wr (.int .u64 ((dig a.hi k : Nat) : Int)) 22
            case c3 => simp [Value.oneCell']
            case c4 => decide
            case c5 => unfold maxLen; omega
            case c6 => omega
            case c7 => simp; have := hM.size; omega
            intro g cap w2 hown hgrow hat hlt2
            have pa2 := hM.whl hgrow pa (by omega)
            have hM2 := hM.app hgrow rfl rfl hown
            simp only [hlen] at hM2)
          go_roundw
          case rel => exact ⟨k + 1, by omega, by go_num, by rw [hd2]; exact hM2, pa2⟩
          case measure => simp [intOf]; omega
        · obtain rfl : k = 4 := by omega
          go_wp2
          go_ret
          exact ⟨_, rfl, hM.lower (Nat.le_refl _) (by omega)⟩
end Go.Proofs.YtofibaomjidieaaDoor
