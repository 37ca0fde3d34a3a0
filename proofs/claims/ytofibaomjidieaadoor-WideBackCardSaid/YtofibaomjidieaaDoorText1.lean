/-
  Layer 7 (wide): the text of 2^64: the walk of Text of package wide at that one number, and of math/bits.Div64 there.
-/
import Derived.Test.YtofibaomjidieaaDoorFmt
import Derived.LoopTactic
import Derived.Deep.DeepCutAuto
namespace Go.Proofs.YtofibaomjidieaaDoor
open Go.RowKit Go.Shelf
set_option linter.unusedSimpArgs false
set_option linter.unusedVariables false
set_option maxHeartbeats 4000000 in
set_option maxRecDepth 100000 in
theorem div64_1 (w : World) : Calls Tryd.prog 33 #[.int .u64 1, .int .u64 0, .int .u64 10000000000000000000] w fun e w' => e = .returned (.tuple #[.int .u64 1, .int .u64 8446744073709551616]) ∧ Below w.heap.size w w' := by
  have hlz := fun W => Tryd.bits_LeadingZeros64 10000000000000000000 W (by decide) (by decide)
  rw [show Lib.bitLen (10000000000000000000 : Int).toNat = 64 by decide +kernel] at hlz
  have q1 : bits .and .u64 10000000000000000000 4294967295 = 2313682944 := by decide +kernel
  have q2 : bits .or .u64 1 0 = 1 := by decide +kernel
  have q3 : bits .and .u64 0 4294967295 = 0 := by decide +kernel
  go_enter Tryd.func33, Tryd.ntmps33
  go_wp2_with (go_at_call 35; refine (hlz _).mono ?_; rintro e w1 ⟨rfl, hw⟩; rw [hw])
  go_loopw [15, 16] (fun q r wr => q = .int .u64 0 ∧ r = .int .u64 1 ∧ wr = w) (fun _ _ _ => 0)
  case atStart => exact ⟨congrArg _ (by decide +kernel), congrArg _ (by decide +kernel), rfl⟩
  case round =>
    obtain ⟨rfl, rfl, hwr⟩ := hrel
    rw [hwr]
    go_wp2
    go_loopw [18, 16] (fun q r wr => q = .int .u64 1 ∧ r = .int .u64 1966660860 ∧ wr = w) (fun _ _ _ => 0)
    case atStart => exact ⟨congrArg _ (by decide +kernel), congrArg _ (by decide +kernel), rfl⟩
    case round =>
      obtain ⟨rfl, rfl, hwr2⟩ := hrel
      rw [hwr2]
      go_wp2
      go_ret2
      refine ⟨?_, Below.refl _ _⟩
      show Ending.returned (.tuple #[.int .u64 1, .int .u64 (IntKind.u64.wrap (IntKind.u64.wrap (IntKind.u64.wrap 18446744073709551616) - 10000000000000000000))]) = _
      rw [show IntKind.u64.wrap (IntKind.u64.wrap (IntKind.u64.wrap 18446744073709551616) - 10000000000000000000) = 8446744073709551616 by decide +kernel]
theorem Pow10.below {w w' : World} {B : Nat} (h : Pow10 w) (hb : Below B w w') (hB : ∀ g, Tryd.prog.globalNamed "internal/strconv.uint64pow10" = some g → g < B) : Pow10 w' := by
  unfold Pow10 Lib.TabIs World.var? at *
  cases hg : Tryd.prog.globalNamed "internal/strconv.uint64pow10" with
  | none => simp [hg] at h
  | some g =>
    simp only [hg, Option.bind_some] at h ⊢
    rw [hb.block g (hB g hg)]
    exact h
theorem Pow10.step {w w' : World} (h : Pow10 w) (hb : Below w.heap.size w w') : Pow10 w' := h.below hb fun g hg => by
  unfold Pow10 Lib.TabIs World.var? at h
  simp only [hg, Option.bind_some] at h
  rcases Nat.lt_or_ge g w.heap.size with h' | h'
  · exact h'
  · rw [Array.getElem?_eq_none h'] at h; simp at h
theorem fmt_a (w : World) (h : Pow10 w) : Calls Tryd.prog 34 #[.int .u64 8446744073709551616, .int .i64 10] w fun e w' => e = .returned (.string ⟨#[56, 52, 52, 54, 55, 52, 52, 48, 55, 51, 55, 48, 57, 53, 53, 49, 54, 49, 54]⟩) ∧ Below w.heap.size w w' := by
  have := fmtU 8446744073709551616 (by decide) w h
  rwa [show Lib.decDigits 8446744073709551616 = [56, 52, 52, 54, 55, 52, 52, 48, 55, 51, 55, 48, 57, 53, 53, 49, 54, 49, 54] by decide +kernel] at this
theorem fmt_b (w : World) (h : Pow10 w) : Calls Tryd.prog 34 #[.int .u64 1, .int .i64 10] w fun e w' => e = .returned (.string ⟨#[49]⟩) ∧ Below w.heap.size w w' := by
  have := fmtU 1 (by decide) w h
  rwa [show Lib.decDigits 1 = [49] by decide +kernel] at this
def lenOf : Value → Nat
  | .string t => t.size
  | _ => 0
abbrev D19 : ByteArray := ⟨#[56, 52, 52, 54, 55, 52, 52, 48, 55, 51, 55, 48, 57, 53, 53, 49, 54, 49, 54]⟩
set_option maxHeartbeats 4000000 in
set_option maxRecDepth 100000 in
theorem text1 (w : World) (ht : Pow10 w) : Calls Tryd.prog 23 #[.agg #[.int .u64 1, .int .u64 0]] w fun e w' => e = .returned (.string ⟨#[49, 56, 52, 52, 54, 55, 52, 52, 48, 55, 51, 55, 48, 57, 53, 53, 49, 54, 49, 54]⟩) ∧ Below w.heap.size w w' := by
  have B0 : Below w.heap.size w (w.alloc (.cells #[.int .u64 1, .int .u64 0] 24)) := below_alloc (Below.refl _ _) _
  go_enter Tryd.func23, Tryd.ntmps23
  go_wp2
  go_loopw [3] (fun s wr => (s = .string ⟨#[]⟩ ∧ Whl wr w.heap.size 24 #[.int .u64 1, .int .u64 0] ∧ Below w.heap.size w wr) ∨ (s = .string D19 ∧ Whl wr w.heap.size 24 #[.int .u64 0, .int .u64 1] ∧ Below w.heap.size w wr)) (fun s _ => 19 - lenOf s)
  case atStart => exact .inl ⟨rfl, Whl.new _ _ _, B0⟩
  case round =>
    rcases hrel with ⟨rfl, hW, hB⟩ | ⟨rfl, hW, hB⟩
    · have c0 : wr.cell? ⟨w.heap.size, 0, none⟩ = some (.int .u64 1) := hW.cell 0
      have c1 : wr.cell? ⟨w.heap.size, 1, none⟩ = some (.int .u64 0) := hW.cell 1
      have f0 := hW.frozen 0
      have f1 := hW.frozen 1
      have l0 := hW.lt
      go_wp2_with (first
        | (go_at_call 33; refine (div64_1 _).mono ?_; rintro e w1 ⟨rfl, hb1⟩; have W1 := hW.below' hb1; have B1 := below_step hB hb1; obtain ⟨hcc1, hff1⟩ := bcell hb1; have l1 := W1.lt)
        | (go_at_call 34; refine (fmt_a _ (ht.step B1)).mono ?_; rintro e w2 ⟨rfl, hb2⟩; have W2 := W1.below' hb2; have B2 := below_step B1 hb2; have l2 := W2.lt))
      have e0 : w2.cell? ⟨w.heap.size, 0, none⟩ = some (.int .u64 1) := W2.cell 0
      have e1 : w2.cell? ⟨w.heap.size, 1, none⟩ = some (.int .u64 0) := W2.cell 1
      have g0 := W2.frozen 0
      have g1 := W2.frozen 1
      go_loopw [7] (fun d wr => d = .string D19 ∧ wr = w2) (fun _ _ => 0)
      case atStart => exact ⟨rfl, rfl⟩
      case round =>
        obtain ⟨rfl, hwr⟩ := hrel
        rw [hwr]
        have hlen : decide (((D19.size : Nat) : Int) < 19) = false := by decide +kernel
        go_wp2
        go_roundw
        case rel => exact .inr ⟨by rfl, by simpa using (W2.put 0 (.int .u64 0)).put 1 (.int .u64 1), (B2.setCell (by simp) _).setCell (by simp) _⟩
        case measure => decide +kernel
    · have c0 : wr.cell? ⟨w.heap.size, 0, none⟩ = some (.int .u64 0) := hW.cell 0
      have c1 : wr.cell? ⟨w.heap.size, 1, none⟩ = some (.int .u64 1) := hW.cell 1
      go_wp2_with (go_at_call 34; refine (fmt_b _ (ht.step hB)).mono ?_; rintro e w3 ⟨rfl, hb3⟩; have B3 := below_step hB hb3)
      go_ret
      refine ⟨?_, B3⟩
      rfl
end Go.Proofs.YtofibaomjidieaaDoor
