/-
  Layer 16 (bounds): FixA, FixB, FewA.
-/
import Derived.Test.YtddobhneplfddaaDoorProg
import Derived.Test.YtddobhneplfddaaDoorRows
import Derived.Test.YtddobhneplfddaaDoorZ0
import Derived.Test.YtddobhneplfddaaDoorZ1
import Derived.Test.YtddobhneplfddaaDoorZ2
import Derived.Test.YtddobhneplfddaaDoorZ3
import Derived.Test.YtddobhneplfddaaDoorZ4
import Derived.Test.YtddobhneplfddaaDoorZ5
import Derived.Test.YtddobhneplfddaaDoorZ6
import Derived.Test.YtddobhneplfddaaDoorZ7
import Derived.Test.YtddobhneplfddaaDoorZ8
import Derived.Test.YtddobhneplfddaaDoorZ9
import Derived.Test.YtddobhneplfddaaDoorZ10
import Derived.Test.YtddobhneplfddaaDoorZ11
import Derived.Test.YtddobhneplfddaaDoorZ12
import Derived.Test.YtddobhneplfddaaDoorZ13
import Derived.Test.YtddobhneplfddaaDoorZ14
import Derived.Test.YtddobhneplfddaaDoorZ15
import Derived.Test.YtddobhneplfddaaDoorZ16
import Derived.Test.YtddobhneplfddaaDoorZ17
import Derived.Test.YtddobhneplfddaaDoorZ18
import Derived.Test.YtddobhneplfddaaDoorZ19
import Derived.Test.YtddobhneplfddaaDoorZ20
import Derived.Test.YtddobhneplfddaaDoorZ21
import Derived.Test.YtddobhneplfddaaDoorZ22
import Derived.Test.YtddobhneplfddaaDoorZ23
import Derived.Test.YtddobhneplfddaaDoorZ24
import Derived.Test.YtddobhneplfddaaDoorZ25
import Derived.BigFrameIn
import Derived.BigQuiet
import Derived.BigRegion
import Derived.Carry
import Derived.ChangeMaps5
import Derived.Deep.AppendLies
import Derived.Deep.CutBlock
import Derived.Deep.DeepCutAuto
import Derived.Deep.DeepHandedRow
import Derived.Deep.DrawnRows
import Derived.Deep.Fields
import Derived.Deep.Light
import Derived.Deep.QuietTactic
import Derived.Deep.RegionHeld3
import Derived.Deep.RegionLaw
import Derived.Deep.SlicePairs
import Derived.Deep.Slices
import Derived.IntWalk
import Derived.JoinedCond
import Derived.Laws.AppendOwnNone
import Derived.Laws.Rows
import Derived.Laws.StructEq
import Derived.Lib.Hide
import Derived.Lib.SmallJoins
import Derived.LoopIn
import Derived.LoopNIn
import Derived.LoopTactic
import Derived.Maps.AppendAt
import Derived.OpenShut
import Derived.OpenVars
import Derived.Outline
import Derived.OwnWalk
import Derived.OwnWalkIn
import Derived.ProofKit
import Derived.RangeFuncBound
import Derived.RangeFuncCalls
import Derived.RangeFuncLeaves
import Derived.RangeFuncNested
import Derived.Shelf.Abstract
import Derived.Shelf.Bits.Mul64
import Derived.Shelf.RegionOpen
import Derived.SizedLaws
import Derived.TacticsInMore
import Derived.WalkKit
import Derived.WalkLawsBesides
import Derived.WalkMore
import Derived.WalkSpells
namespace Go.Proofs.YtddobhneplfddaaDoor
set_option maxRecDepth 100000
open Go.RowKit
set_option linter.unusedSimpArgs false
set_option linter.unusedVariables false
/-- Blocks that are made one behind the other. -/
def allocs (w : World) : List (TypeId × Array Value) → World
  | [] => w
  | a :: l => allocs (w.alloc (.cells a.2 a.1)) l
theorem below_allocs {w0 : World} : ∀ (l : List (TypeId × Array Value)) (w : World), Below w0.heap.size w0 w → Below w0.heap.size w0 (allocs w l)
  | [], _, h => h
  | a :: l, w, h => below_allocs l _ (below_alloc h _)
theorem whl_keep {g : Nat} {t : TypeId} {cs : Array Value} : ∀ (l : List (TypeId × Array Value)) (w : World), Whl w g t cs → Whl (allocs w l) g t cs
  | [], _, h => h
  | a :: l, w, h => whl_keep l _ (h.alloc _)
theorem whl_allocs : ∀ (l : List (TypeId × Array Value)) (w : World) (i : Nat) (t : TypeId) (cs : Array Value), l[i]? = some (t, cs) → Whl (allocs w l) (w.heap.size + i) t cs
  | [], _, i, _, _, h => by simp at h
  | a :: l, w, 0, t, cs, h => by
    simp only [List.getElem?_cons_zero, Option.some.injEq] at h
    subst h
    exact whl_keep l _ (Whl.new w t cs)
  | a :: l, w, i + 1, t, cs, h => by
    rw [List.getElem?_cons_succ] at h
    have := whl_allocs l (w.alloc (.cells a.2 a.1)) i t cs h
    rw [World.size_alloc] at this
    rwa [show w.heap.size + (i + 1) = w.heap.size + 1 + i by omega]
def fixF (pb cb : Nat) : FuncD := ⟨strOf [102], some ⟨pb, 0, none⟩, 1, [⟨-3, 9⟩], 2, 0, some ⟨cb, 0, none⟩, 3, [⟨17, 1, 0, 0, 2⟩, ⟨18, 1, 0, 0, 0⟩, ⟨0, 1, 0, 0, 0⟩]⟩
def fixM (tb fb pb cb : Nat) : ModD := ⟨some ⟨tb, 0, none⟩, 1, [8], some ⟨fb, 0, none⟩, 1, [fixF pb cb]⟩
section
variable (tb fb pb cb : Nat)
theorem fix_find : findD (fixM tb fb pb cb).funcs (nthF (fixM tb fb pb cb).funcs 0).name = 0 := by
  have : eqN (nthF (fixM tb fb pb cb).funcs 0).name (nthF (fixM tb fb pb cb).funcs 0).name = true := by simp [eqN]
  simp only [fixM, findD, List.length_cons, List.length_nil, findFrom] at this ⊢
  simp only [this, if_true]; rfl
theorem fix_may : mayD (fixM tb fb pb cb) = ⟨0, 0, 0⟩ := by
  have h2 : isNameB (nthF (fixM tb fb pb cb).funcs 0).name = true := by rfl
  have hw : wholeD (fixM tb fb pb cb) = -1 := by
    have : okWhole (fixM tb fb pb cb) 0 = true := by
      rw [okWhole]
      unfold wholeE
      rw [fix_find, h2]; rfl
    show badFrom _ 0 1 = -1
    rw [badFrom, this]; rfl
  exact mayD_6 (show ¬ 16 < 1 by decide) rfl (show ¬ 32 < 1 by decide) hw rfl
theorem fix_wf : (fixM tb fb pb cb).Wf := by
  refine ⟨fun t ht => ?_, by simp [fixM], fun f hf => ?_, by simp [fixM]⟩
  · obtain rfl : t = 8 := by simpa [fixM] using ht
    exact ⟨by decide, by decide⟩
  obtain rfl : f = fixF pb cb := by simpa [fixM] using hf
  refine ⟨?_, fun s hs => ?_, by simp [fixF], ⟨by simp [fixF], by simp [fixF]⟩, ⟨by simp [fixF], by simp [fixF]⟩, fun y hy => ?_, by simp [fixF]⟩
  · show (strOf [102]).size ≤ maxLen
    unfold maxLen; decide
  · obtain rfl : s = ⟨-3, 9⟩ := by simpa [fixF] using hs
    exact ⟨⟨by decide, by decide⟩, ⟨by decide, by decide⟩⟩
  · have : y = ⟨17, 1, 0, 0, 2⟩ ∨ y = ⟨18, 1, 0, 0, 0⟩ ∨ y = ⟨0, 1, 0, 0, 0⟩ := by simpa [fixF] using hy
    rcases this with rfl | rfl | rfl <;> exact ⟨⟨by decide, by decide⟩, ⟨by decide, by decide⟩, ⟨by decide, by decide⟩, ⟨by decide, by decide⟩, ⟨by decide, by decide⟩⟩
theorem fix_nils : (fixM tb fb pb cb).Nils := by
  refine ⟨(fun h => by cases h), (fun h => by cases h), fun f hf => ?_⟩
  obtain rfl : f = fixF pb cb := by simpa [fixM] using hf
  exact ⟨(fun h => by cases h), (fun h => by cases h)⟩
def fixS : StD := ⟨[some [⟨-3, 9⟩, ⟨0, 9223372036854775807⟩], some [⟨-3, 9⟩, ⟨0, 8⟩], some [⟨-3, 9⟩, ⟨0, 9223372036854775807⟩]], [false, false, false], [6, 5, 6], [[0, 6], [0, 5], [0, 6]]⟩
theorem fix_marks : ∀ p, p < 7 → (afterD (fixM tb fb pb cb) (fixF pb cb) (passes 3 p)).marked = [true, false, false]
  | 0, _ => by kernel_rfl
  | 1, _ => by kernel_rfl
  | 2, _ => by kernel_rfl
  | 3, _ => by kernel_rfl
  | 4, _ => by kernel_rfl
  | 5, _ => by kernel_rfl
  | 6, _ => by kernel_rfl
  | p + 7, h => absurd h (by omega)
theorem fix_last : afterD (fixM tb fb pb cb) (fixF pb cb) (passes 3 7) = fixS := by kernel_rfl
theorem fix_final : Final (fixM tb fb pb cb) (fixF pb cb) fixS :=
  ⟨7, fun p hp => by rw [show (fixF pb cb).code.length = 3 from rfl, fix_marks tb fb pb cb p hp]; simp, by rw [show (fixF pb cb).code.length = 3 from rfl, fix_last]; simp [fixS], (fix_last tb fb pb cb).symm⟩
theorem fix_edge : edgeD (fixM tb fb pb cb) 0 0 1 [⟨3, 5⟩, ⟨0, 9⟩] = some [⟨3, 5⟩, ⟨0, 4⟩] := by
  have := edge_yes (m := fixM tb fb pb cb) (kf := 0) (k0 := 0) (tw := 1) (l := [⟨3, 5⟩, ⟨0, 9⟩]) (fix_may tb fb pb cb) (show 0 < 1 by decide) (by
    have : nextD (nthF (fixM tb fb pb cb).funcs 0) (0 : Nat) = [1, 2] := by kernel_rfl
    rw [this]; simp) rfl (fun j s hj hs => by
    have : s = ⟨3, 5⟩ ∨ s = ⟨0, 9⟩ := by have := List.mem_of_getElem? hs; simpa using this
    rcases this with rfl | rfl <;> decide)
  exact this.trans (by kernel_rfl)
end
/-- What lies in memory while fixed runs: the module. -/
structure FixMem (w : World) (W : World) : Prop where
  below : Below w.heap.size w W
  b0 : Whl W (w.heap.size) 2 #[.int .i64 8]
  b1 : Whl W (w.heap.size + 1) 34 #[.int .i64 (-3), .int .i64 9]
  b2 : Whl W (w.heap.size + 1 + 1) 65 #[.int .i64 17, .int .i64 1, .int .i64 0, .int .i64 0, .int .i64 2, .int .i64 18, .int .i64 1, .int .i64 0, .int .i64 0, .int .i64 0, .int .i64 0, .int .i64 1, .int .i64 0, .int .i64 0, .int .i64 0]
  b3 : Whl W (w.heap.size + 1 + 1 + 1) 48 #[.string (strOf [102]), .slice (some ⟨w.heap.size + 1, 0, none⟩) 1 1, .int .i64 2, .int .i64 0, .slice (some ⟨w.heap.size + 1 + 1, 0, none⟩) 3 3]
  b4 : Whl W (w.heap.size + 1 + 1 + 1 + 1) 25 #[.slice (some ⟨w.heap.size, 0, none⟩) 1 1, .slice (some ⟨w.heap.size + 1 + 1 + 1, 0, none⟩) 1 1]
theorem FixMem.go {w W W' : World} (h : FixMem w W) (hb : Below W.heap.size W W') : FixMem w W' := ⟨below_step h.below hb, h.b0.below' hb, h.b1.below' hb, h.b2.below' hb, h.b3.below' hb, h.b4.below' hb⟩
theorem FixMem.start (w : World) : FixMem w (((((w.alloc (.cells #[.int .i64 8] 2)).alloc (.cells #[.int .i64 (-3), .int .i64 9] 34)).alloc (.cells #[.int .i64 17, .int .i64 1, .int .i64 0, .int .i64 0, .int .i64 2, .int .i64 18, .int .i64 1, .int .i64 0, .int .i64 0, .int .i64 0, .int .i64 0, .int .i64 1, .int .i64 0, .int .i64 0, .int .i64 0] 65)).alloc (.cells #[.string (strOf [102]), .slice (some ⟨w.heap.size + 1, 0, none⟩) 1 1, .int .i64 2, .int .i64 0, .slice (some ⟨w.heap.size + 1 + 1, 0, none⟩) 3 3] 48)).alloc (.cells #[.slice (some ⟨w.heap.size, 0, none⟩) 1 1, .slice (some ⟨w.heap.size + 1 + 1 + 1, 0, none⟩) 1 1] 25)) := by
  have k := fun i t cs => whl_allocs [(2, #[.int .i64 8]), (34, #[.int .i64 (-3), .int .i64 9]), (65, #[.int .i64 17, .int .i64 1, .int .i64 0, .int .i64 0, .int .i64 2, .int .i64 18, .int .i64 1, .int .i64 0, .int .i64 0, .int .i64 0, .int .i64 0, .int .i64 1, .int .i64 0, .int .i64 0, .int .i64 0]), (48, #[.string (strOf [102]), .slice (some ⟨w.heap.size + 1, 0, none⟩) 1 1, .int .i64 2, .int .i64 0, .slice (some ⟨w.heap.size + 1 + 1, 0, none⟩) 3 3]), (25, #[.slice (some ⟨w.heap.size, 0, none⟩) 1 1, .slice (some ⟨w.heap.size + 1 + 1 + 1, 0, none⟩) 1 1])] w i t cs
  exact ⟨below_allocs [(2, #[.int .i64 8]), (34, #[.int .i64 (-3), .int .i64 9]), (65, #[.int .i64 17, .int .i64 1, .int .i64 0, .int .i64 0, .int .i64 2, .int .i64 18, .int .i64 1, .int .i64 0, .int .i64 0, .int .i64 0, .int .i64 0, .int .i64 1, .int .i64 0, .int .i64 0, .int .i64 0]), (48, #[.string (strOf [102]), .slice (some ⟨w.heap.size + 1, 0, none⟩) 1 1, .int .i64 2, .int .i64 0, .slice (some ⟨w.heap.size + 1 + 1, 0, none⟩) 3 3]), (25, #[.slice (some ⟨w.heap.size, 0, none⟩) 1 1, .slice (some ⟨w.heap.size + 1 + 1 + 1, 0, none⟩) 1 1])] w (Below.refl _ _), k 0 _ _ rfl, k 1 _ _ rfl, k 2 _ _ rfl, k 3 _ _ rfl, k 4 _ _ rfl⟩
theorem FixMem.ok {w W : World} (h : FixMem w W) : ModOk W W.heap.size (fixM w.heap.size (w.heap.size + 1 + 1 + 1) (w.heap.size + 1) (w.heap.size + 1 + 1)) := by
  refine ⟨fun _ => ⟨w.heap.size, 0, rfl, h.b0.lt, fun k hk => ?_⟩, fun _ => ⟨w.heap.size + 1 + 1 + 1, 0, rfl, h.b3.lt, fun k hk j hj => ?_⟩, fun k hk => ?_⟩
  · obtain rfl : k = 0 := by have : k < 1 := hk; omega
    exact h.b0.cell 0
  · obtain rfl : k = 0 := by have : k < 1 := hk; omega
    have hj' : j < 5 := hj
    obtain rfl | rfl | rfl | rfl | rfl : j = 0 ∨ j = 1 ∨ j = 2 ∨ j = 3 ∨ j = 4 := by omega
    · exact h.b3.cell 0
    · exact h.b3.cell 1
    · exact h.b3.cell 2
    · exact h.b3.cell 3
    · exact h.b3.cell 4
  · obtain rfl : k = 0 := by have : k < 1 := hk; omega
    refine ⟨fun _ => ⟨w.heap.size + 1, 0, rfl, h.b1.lt, fun k hk j hj => ?_⟩, fun _ => ⟨w.heap.size + 1 + 1, 0, rfl, h.b2.lt, fun k hk j hj => ?_⟩⟩
    · obtain rfl : k = 0 := by have : k < 1 := hk; omega
      have hj' : j < 2 := hj
      obtain rfl | rfl : j = 0 ∨ j = 1 := by omega
      · exact h.b1.cell 0
      · exact h.b1.cell 1
    · have hk' : k < 3 := hk
      have hj' : j < 5 := hj
      obtain rfl | rfl | rfl : k = 0 ∨ k = 1 ∨ k = 2 := by omega
      all_goals
        obtain rfl | rfl | rfl | rfl | rfl : j = 0 ∨ j = 1 ∨ j = 2 ∨ j = 3 ∨ j = 4 := by omega
        all_goals exact h.b2.cell _
/-- An analysis that Run has told, as a reader has it. -/
theorem anAt_of {W : World} {B n R sb : Nat} {L : Lay} {s : StD} {m : ModD} {f : FuncD} (h : StP W B n R sb L s) (hg : GoodS m f s) (hn : f.code.length = n) (hR : f.regs.toNat = R) (hR2 : R ≤ maxLen) : AnAt W W.heap.size (some ⟨L.inb, 0, none⟩) (some ⟨L.chb, 0, none⟩) (s.ins.map (·.getD [])) s.changes := by
  have hli : s.ins.length = n := by rw [← hn]; exact hg.ok.li
  have hlc : s.changes.length = n := by rw [← hn]; exact hg.ok.lc
  refine ⟨fun _ => ⟨L.inb, 0, rfl, h.ins.lt, fun k hk => ?_⟩, fun _ => ⟨L.chb, 0, rfl, h.chs.lt, fun k hk => ?_⟩⟩
  · rw [List.length_map, hli] at hk
    have e : (s.ins.map (·.getD [])).getD k [] = (s.ins.getD k none).getD [] := by
      simp only [List.getD_eq_getElem?_getD, List.getElem?_map]
      cases s.ins[k]? <;> rfl
    rw [e]
    have hc := h.insC hk
    cases ho : s.ins.getD k none with
    | none =>
      rw [inV, ho] at hc
      refine ⟨Nat.zero_le _, none, 0, ?_, fun h0 => absurd h0 (by simp)⟩
      rw [Nat.zero_add]; exact hc
    | some l =>
      rw [inV, ho] at hc
      have hl := (hg.ok.some k l ho).1
      simp only [Option.getD_some]
      have hr := (h.rows k l ho).1
      refine ⟨by omega, _, _, by rw [Nat.zero_add, hl, hR]; exact hc, hr.rowsAt hr.lt⟩
  · rw [hlc] at hk
    have hl := hg.ok.row k (by omega)
    refine ⟨by omega, _, _, by rw [Nat.zero_add, hl, hR]; exact h.chsC hk, fun _ => ⟨_, 0, rfl, (h.cnts k hk).lt, fun j hj => by rw [Nat.zero_add]; exact h.cntC hk hj⟩⟩
def wantI : List (List Sp) := [[⟨-3, 9⟩, ⟨0, 9223372036854775807⟩], [⟨-3, 9⟩, ⟨0, 8⟩], [⟨-3, 9⟩, ⟨0, 9223372036854775807⟩]]
def wantC : List (List Nat) := [[0, 6], [0, 5], [0, 6]]
theorem fix_Run {w W : World} (h : FixMem w W) (ht : TabOk w) : Calls Tryd.prog 15 #[.agg #[.slice (some ⟨w.heap.size, 0, none⟩) 1 1, .slice (some ⟨w.heap.size + 1 + 1 + 1, 0, none⟩) 1 1], .int .i64 0] W fun e w' =>
    ∃ ib cb, e = .returned (.tuple #[.agg #[.slice (some ⟨ib, 0, none⟩) 3 3, .slice (some ⟨cb, 0, none⟩) 3 3], .int .i64 0]) ∧ AnAt w' w'.heap.size (some ⟨ib, 0, none⟩) (some ⟨cb, 0, none⟩) wantI wantC ∧ Below W.heap.size W w' := by
  refine (runP (fixM w.heap.size (w.heap.size + 1 + 1 + 1) (w.heap.size + 1) (w.heap.size + 1 + 1)) 0 (fix_wf _ _ _ _) (fix_nils _ _ _ _) W h.ok (ht.below h.below ht.size)).mono ?_
  rintro e w' ⟨hb, h2⟩
  rw [fix_may] at h2
  rcases h2 with ⟨h0, _⟩ | ⟨_, h0, _⟩ | ⟨_, kf, e0, hk, L, sb, s, hf, he, hS⟩
  · exact absurd rfl h0
  · rcases h0 with h0 | h0
    · omega
    · have : (1 : Int) ≤ 0 := h0
      omega
  · obtain rfl : kf = 0 := by omega
    obtain rfl : s = fixS := hf.only (fix_final _ _ _ _)
    have hg := (hf.good (fix_wf _ _ _ _) (fix_may _ _ _ _) hk).1
    exact ⟨L.inb, L.chb, he, anAt_of hS hg rfl rfl (show (2 : Nat) ≤ maxLen by unfold maxLen; decide), hb⟩
theorem want_at (V : World) : AnAt (((((((((V.alloc (.cells #[.int .i64 (-3), .int .i64 9, .int .i64 0, .int .i64 9223372036854775807] 34)).alloc (.cells #[.int .i64 (-3), .int .i64 9, .int .i64 0, .int .i64 8] 34)).alloc (.cells #[.int .i64 (-3), .int .i64 9, .int .i64 0, .int .i64 9223372036854775807] 34)).alloc (.cells #[.slice (some ⟨V.heap.size, 0, none⟩) 2 2, .slice (some ⟨V.heap.size + 1, 0, none⟩) 2 2, .slice (some ⟨V.heap.size + 1 + 1, 0, none⟩) 2 2] 26)).alloc (.cells #[.int .i64 0, .int .i64 6] 3)).alloc (.cells #[.int .i64 0, .int .i64 5] 3)).alloc (.cells #[.int .i64 0, .int .i64 6] 3)).alloc (.cells #[.slice (some ⟨V.heap.size + 1 + 1 + 1 + 1, 0, none⟩) 2 2, .slice (some ⟨V.heap.size + 1 + 1 + 1 + 1 + 1, 0, none⟩) 2 2, .slice (some ⟨V.heap.size + 1 + 1 + 1 + 1 + 1 + 1, 0, none⟩) 2 2] 44)).alloc (.cells #[.slice (some ⟨V.heap.size + 1 + 1 + 1, 0, none⟩) 3 3, .slice (some ⟨V.heap.size + 1 + 1 + 1 + 1 + 1 + 1 + 1, 0, none⟩) 3 3] 39)) (((((((((V.alloc (.cells #[.int .i64 (-3), .int .i64 9, .int .i64 0, .int .i64 9223372036854775807] 34)).alloc (.cells #[.int .i64 (-3), .int .i64 9, .int .i64 0, .int .i64 8] 34)).alloc (.cells #[.int .i64 (-3), .int .i64 9, .int .i64 0, .int .i64 9223372036854775807] 34)).alloc (.cells #[.slice (some ⟨V.heap.size, 0, none⟩) 2 2, .slice (some ⟨V.heap.size + 1, 0, none⟩) 2 2, .slice (some ⟨V.heap.size + 1 + 1, 0, none⟩) 2 2] 26)).alloc (.cells #[.int .i64 0, .int .i64 6] 3)).alloc (.cells #[.int .i64 0, .int .i64 5] 3)).alloc (.cells #[.int .i64 0, .int .i64 6] 3)).alloc (.cells #[.slice (some ⟨V.heap.size + 1 + 1 + 1 + 1, 0, none⟩) 2 2, .slice (some ⟨V.heap.size + 1 + 1 + 1 + 1 + 1, 0, none⟩) 2 2, .slice (some ⟨V.heap.size + 1 + 1 + 1 + 1 + 1 + 1, 0, none⟩) 2 2] 44)).alloc (.cells #[.slice (some ⟨V.heap.size + 1 + 1 + 1, 0, none⟩) 3 3, .slice (some ⟨V.heap.size + 1 + 1 + 1 + 1 + 1 + 1 + 1, 0, none⟩) 3 3] 39)).heap.size (some ⟨V.heap.size + 1 + 1 + 1, 0, none⟩) (some ⟨V.heap.size + 1 + 1 + 1 + 1 + 1 + 1 + 1, 0, none⟩) wantI wantC ∧ Whl (((((((((V.alloc (.cells #[.int .i64 (-3), .int .i64 9, .int .i64 0, .int .i64 9223372036854775807] 34)).alloc (.cells #[.int .i64 (-3), .int .i64 9, .int .i64 0, .int .i64 8] 34)).alloc (.cells #[.int .i64 (-3), .int .i64 9, .int .i64 0, .int .i64 9223372036854775807] 34)).alloc (.cells #[.slice (some ⟨V.heap.size, 0, none⟩) 2 2, .slice (some ⟨V.heap.size + 1, 0, none⟩) 2 2, .slice (some ⟨V.heap.size + 1 + 1, 0, none⟩) 2 2] 26)).alloc (.cells #[.int .i64 0, .int .i64 6] 3)).alloc (.cells #[.int .i64 0, .int .i64 5] 3)).alloc (.cells #[.int .i64 0, .int .i64 6] 3)).alloc (.cells #[.slice (some ⟨V.heap.size + 1 + 1 + 1 + 1, 0, none⟩) 2 2, .slice (some ⟨V.heap.size + 1 + 1 + 1 + 1 + 1, 0, none⟩) 2 2, .slice (some ⟨V.heap.size + 1 + 1 + 1 + 1 + 1 + 1, 0, none⟩) 2 2] 44)).alloc (.cells #[.slice (some ⟨V.heap.size + 1 + 1 + 1, 0, none⟩) 3 3, .slice (some ⟨V.heap.size + 1 + 1 + 1 + 1 + 1 + 1 + 1, 0, none⟩) 3 3] 39)) (V.heap.size + 1 + 1 + 1 + 1 + 1 + 1 + 1 + 1) 39 #[.slice (some ⟨V.heap.size + 1 + 1 + 1, 0, none⟩) 3 3, .slice (some ⟨V.heap.size + 1 + 1 + 1 + 1 + 1 + 1 + 1, 0, none⟩) 3 3] ∧ Below V.heap.size V (((((((((V.alloc (.cells #[.int .i64 (-3), .int .i64 9, .int .i64 0, .int .i64 9223372036854775807] 34)).alloc (.cells #[.int .i64 (-3), .int .i64 9, .int .i64 0, .int .i64 8] 34)).alloc (.cells #[.int .i64 (-3), .int .i64 9, .int .i64 0, .int .i64 9223372036854775807] 34)).alloc (.cells #[.slice (some ⟨V.heap.size, 0, none⟩) 2 2, .slice (some ⟨V.heap.size + 1, 0, none⟩) 2 2, .slice (some ⟨V.heap.size + 1 + 1, 0, none⟩) 2 2] 26)).alloc (.cells #[.int .i64 0, .int .i64 6] 3)).alloc (.cells #[.int .i64 0, .int .i64 5] 3)).alloc (.cells #[.int .i64 0, .int .i64 6] 3)).alloc (.cells #[.slice (some ⟨V.heap.size + 1 + 1 + 1 + 1, 0, none⟩) 2 2, .slice (some ⟨V.heap.size + 1 + 1 + 1 + 1 + 1, 0, none⟩) 2 2, .slice (some ⟨V.heap.size + 1 + 1 + 1 + 1 + 1 + 1, 0, none⟩) 2 2] 44)).alloc (.cells #[.slice (some ⟨V.heap.size + 1 + 1 + 1, 0, none⟩) 3 3, .slice (some ⟨V.heap.size + 1 + 1 + 1 + 1 + 1 + 1 + 1, 0, none⟩) 3 3] 39)) := by
  have k := fun i t cs => whl_allocs [(34, #[.int .i64 (-3), .int .i64 9, .int .i64 0, .int .i64 9223372036854775807]), (34, #[.int .i64 (-3), .int .i64 9, .int .i64 0, .int .i64 8]), (34, #[.int .i64 (-3), .int .i64 9, .int .i64 0, .int .i64 9223372036854775807]), (26, #[.slice (some ⟨V.heap.size, 0, none⟩) 2 2, .slice (some ⟨V.heap.size + 1, 0, none⟩) 2 2, .slice (some ⟨V.heap.size + 1 + 1, 0, none⟩) 2 2]), (3, #[.int .i64 0, .int .i64 6]), (3, #[.int .i64 0, .int .i64 5]), (3, #[.int .i64 0, .int .i64 6]), (44, #[.slice (some ⟨V.heap.size + 1 + 1 + 1 + 1, 0, none⟩) 2 2, .slice (some ⟨V.heap.size + 1 + 1 + 1 + 1 + 1, 0, none⟩) 2 2, .slice (some ⟨V.heap.size + 1 + 1 + 1 + 1 + 1 + 1, 0, none⟩) 2 2]), (39, #[.slice (some ⟨V.heap.size + 1 + 1 + 1, 0, none⟩) 3 3, .slice (some ⟨V.heap.size + 1 + 1 + 1 + 1 + 1 + 1 + 1, 0, none⟩) 3 3])] V i t cs
  have k0 := k 0 _ _ rfl
  have k1 := k 1 _ _ rfl
  have k2 := k 2 _ _ rfl
  have k3 := k 3 _ _ rfl
  have k4 := k 4 _ _ rfl
  have k5 := k 5 _ _ rfl
  have k6 := k 6 _ _ rfl
  have k7 := k 7 _ _ rfl
  have k8 := k 8 _ _ rfl
  have hB := below_allocs [(34, #[.int .i64 (-3), .int .i64 9, .int .i64 0, .int .i64 9223372036854775807]), (34, #[.int .i64 (-3), .int .i64 9, .int .i64 0, .int .i64 8]), (34, #[.int .i64 (-3), .int .i64 9, .int .i64 0, .int .i64 9223372036854775807]), (26, #[.slice (some ⟨V.heap.size, 0, none⟩) 2 2, .slice (some ⟨V.heap.size + 1, 0, none⟩) 2 2, .slice (some ⟨V.heap.size + 1 + 1, 0, none⟩) 2 2]), (3, #[.int .i64 0, .int .i64 6]), (3, #[.int .i64 0, .int .i64 5]), (3, #[.int .i64 0, .int .i64 6]), (44, #[.slice (some ⟨V.heap.size + 1 + 1 + 1 + 1, 0, none⟩) 2 2, .slice (some ⟨V.heap.size + 1 + 1 + 1 + 1 + 1, 0, none⟩) 2 2, .slice (some ⟨V.heap.size + 1 + 1 + 1 + 1 + 1 + 1, 0, none⟩) 2 2]), (39, #[.slice (some ⟨V.heap.size + 1 + 1 + 1, 0, none⟩) 3 3, .slice (some ⟨V.heap.size + 1 + 1 + 1 + 1 + 1 + 1 + 1, 0, none⟩) 3 3])] V (Below.refl V.heap.size V)
  refine ⟨?_, k8, hB⟩
  change AnAt (allocs V [(34, #[.int .i64 (-3), .int .i64 9, .int .i64 0, .int .i64 9223372036854775807]), (34, #[.int .i64 (-3), .int .i64 9, .int .i64 0, .int .i64 8]), (34, #[.int .i64 (-3), .int .i64 9, .int .i64 0, .int .i64 9223372036854775807]), (26, #[.slice (some ⟨V.heap.size, 0, none⟩) 2 2, .slice (some ⟨V.heap.size + 1, 0, none⟩) 2 2, .slice (some ⟨V.heap.size + 1 + 1, 0, none⟩) 2 2]), (3, #[.int .i64 0, .int .i64 6]), (3, #[.int .i64 0, .int .i64 5]), (3, #[.int .i64 0, .int .i64 6]), (44, #[.slice (some ⟨V.heap.size + 1 + 1 + 1 + 1, 0, none⟩) 2 2, .slice (some ⟨V.heap.size + 1 + 1 + 1 + 1 + 1, 0, none⟩) 2 2, .slice (some ⟨V.heap.size + 1 + 1 + 1 + 1 + 1 + 1, 0, none⟩) 2 2]), (39, #[.slice (some ⟨V.heap.size + 1 + 1 + 1, 0, none⟩) 3 3, .slice (some ⟨V.heap.size + 1 + 1 + 1 + 1 + 1 + 1 + 1, 0, none⟩) 3 3])]) (allocs V [(34, #[.int .i64 (-3), .int .i64 9, .int .i64 0, .int .i64 9223372036854775807]), (34, #[.int .i64 (-3), .int .i64 9, .int .i64 0, .int .i64 8]), (34, #[.int .i64 (-3), .int .i64 9, .int .i64 0, .int .i64 9223372036854775807]), (26, #[.slice (some ⟨V.heap.size, 0, none⟩) 2 2, .slice (some ⟨V.heap.size + 1, 0, none⟩) 2 2, .slice (some ⟨V.heap.size + 1 + 1, 0, none⟩) 2 2]), (3, #[.int .i64 0, .int .i64 6]), (3, #[.int .i64 0, .int .i64 5]), (3, #[.int .i64 0, .int .i64 6]), (44, #[.slice (some ⟨V.heap.size + 1 + 1 + 1 + 1, 0, none⟩) 2 2, .slice (some ⟨V.heap.size + 1 + 1 + 1 + 1 + 1, 0, none⟩) 2 2, .slice (some ⟨V.heap.size + 1 + 1 + 1 + 1 + 1 + 1, 0, none⟩) 2 2]), (39, #[.slice (some ⟨V.heap.size + 1 + 1 + 1, 0, none⟩) 3 3, .slice (some ⟨V.heap.size + 1 + 1 + 1 + 1 + 1 + 1 + 1, 0, none⟩) 3 3])]).heap.size _ _ _ _
  generalize allocs V [(34, #[.int .i64 (-3), .int .i64 9, .int .i64 0, .int .i64 9223372036854775807]), (34, #[.int .i64 (-3), .int .i64 9, .int .i64 0, .int .i64 8]), (34, #[.int .i64 (-3), .int .i64 9, .int .i64 0, .int .i64 9223372036854775807]), (26, #[.slice (some ⟨V.heap.size, 0, none⟩) 2 2, .slice (some ⟨V.heap.size + 1, 0, none⟩) 2 2, .slice (some ⟨V.heap.size + 1 + 1, 0, none⟩) 2 2]), (3, #[.int .i64 0, .int .i64 6]), (3, #[.int .i64 0, .int .i64 5]), (3, #[.int .i64 0, .int .i64 6]), (44, #[.slice (some ⟨V.heap.size + 1 + 1 + 1 + 1, 0, none⟩) 2 2, .slice (some ⟨V.heap.size + 1 + 1 + 1 + 1 + 1, 0, none⟩) 2 2, .slice (some ⟨V.heap.size + 1 + 1 + 1 + 1 + 1 + 1, 0, none⟩) 2 2]), (39, #[.slice (some ⟨V.heap.size + 1 + 1 + 1, 0, none⟩) 3 3, .slice (some ⟨V.heap.size + 1 + 1 + 1 + 1 + 1 + 1 + 1, 0, none⟩) 3 3])] = W at *
  have rows : ∀ {g : Nat} {cs : Array Value} {l : List Sp}, Whl W g 34 cs → (∀ j, j < l.length → ∀ i, i < 2 → cs[j * 2 + i]? = some (spV (nthS l j) i)) → RowsAt W W.heap.size (some ⟨g, 0, none⟩) l.length 2 fun j => spV (nthS l j) := fun hw hc _ => ⟨_, 0, rfl, hw.lt, fun j hj i hi => by rw [hw.cell, Nat.zero_add]; exact hc j hj i hi⟩
  have two : ∀ {p : Nat → Prop}, p 0 → p 1 → ∀ j, j < 2 → p j := fun h0 h1 j hj => by
    obtain rfl | rfl : j = 0 ∨ j = 1 := by omega
    · exact h0
    · exact h1
  have three : ∀ {p : Nat → Prop}, p 0 → p 1 → p 2 → ∀ j, j < 3 → p j := fun h0 h1 h2 j hj => by
    obtain rfl | rfl | rfl : j = 0 ∨ j = 1 ∨ j = 2 := by omega
    · exact h0
    · exact h1
    · exact h2
  refine ⟨fun _ => ⟨_, 0, rfl, k3.lt, three ⟨by unfold maxLen; decide, _, _, k3.cell 0, rows k0 (two (two rfl rfl) (two rfl rfl))⟩ ⟨by unfold maxLen; decide, _, _, k3.cell 1, rows k1 (two (two rfl rfl) (two rfl rfl))⟩ ⟨by unfold maxLen; decide, _, _, k3.cell 2, rows k2 (two (two rfl rfl) (two rfl rfl))⟩⟩,
    fun _ => ⟨_, 0, rfl, k7.lt, three ⟨by unfold maxLen; decide, _, _, k7.cell 0, fun _ => ⟨_, 0, rfl, k4.lt, two (k4.cell 0) (k4.cell 1)⟩⟩ ⟨by unfold maxLen; decide, _, _, k7.cell 1, fun _ => ⟨_, 0, rfl, k5.lt, two (k5.cell 0) (k5.cell 1)⟩⟩ ⟨by unfold maxLen; decide, _, _, k7.cell 2, fun _ => ⟨_, 0, rfl, k6.lt, two (k6.cell 0) (k6.cell 1)⟩⟩⟩⟩
theorem fix_Edge {w W : World} (h : FixMem w W) (ht : TabOk w) : Calls Tryd.prog 10 #[.agg #[.slice (some ⟨w.heap.size, 0, none⟩) 1 1, .slice (some ⟨w.heap.size + 1 + 1 + 1, 0, none⟩) 1 1], .int .i64 0, .int .i64 0, .int .i64 1, .slice (some ⟨W.heap.size, 0, none⟩) 2 2] (W.alloc (.cells #[.int .i64 3, .int .i64 5, .int .i64 0, .int .i64 9] 34)) fun e w' =>
    ∃ g cp, e = .returned (.tuple #[.slice (some ⟨g, 0, none⟩) 2 cp, .bool true]) ∧ RowsAt w' w'.heap.size (some ⟨g, 0, none⟩) 2 2 (fun k => spV (nthS [⟨3, 5⟩, ⟨0, 4⟩] k)) ∧ Below W.heap.size W w' := by
  have hA := FixMem.go h (below_alloc (Below.refl _ _) (.cells #[.int .i64 3, .int .i64 5, .int .i64 0, .int .i64 9] 34))
  have hN := Whl.new W 34 #[.int .i64 3, .int .i64 5, .int .i64 0, .int .i64 9]
  have hr : RowsAt (W.alloc (.cells #[.int .i64 3, .int .i64 5, .int .i64 0, .int .i64 9] 34)) (W.alloc (.cells #[.int .i64 3, .int .i64 5, .int .i64 0, .int .i64 9] 34)).heap.size (some ⟨W.heap.size, 0, none⟩) 2 2 (fun k => spV (nthS [⟨3, 5⟩, ⟨0, 9⟩] k)) := fun _ => ⟨_, 0, rfl, hN.lt, fun k hk j hj => by
    rw [hN.cell]
    obtain rfl | rfl : k = 0 ∨ k = 1 := by omega
    all_goals
      obtain rfl | rfl : j = 0 ∨ j = 1 := by omega
      all_goals rfl⟩
  refine (edgeP (fixM w.heap.size (w.heap.size + 1 + 1 + 1) (w.heap.size + 1) (w.heap.size + 1 + 1)) 0 0 1 (some ⟨W.heap.size, 0, none⟩) 2 [⟨3, 5⟩, ⟨0, 9⟩] (fix_wf _ _ _ _) ⟨by decide, by decide⟩ (by unfold maxLen; decide) (fun k s hs => by
    have : s = ⟨3, 5⟩ ∨ s = ⟨0, 9⟩ := by have := List.mem_of_getElem? hs; simpa using this
    rcases this with rfl | rfl <;> exact ⟨⟨by decide, by decide⟩, ⟨by decide, by decide⟩⟩) _ hA.ok (ht.below hA.below ht.size) hr).mono ?_
  rintro e w' ⟨hb, v, he, hv⟩
  rw [fix_edge] at he hv
  obtain ⟨⟨g, cp, rfl, hgb, hcl, hcm, hR⟩, _⟩ := hv
  exact ⟨g, cp, he, hR.toE.rowsAt hR.lt, below_step (below_alloc (Below.refl _ _) _) hb⟩
end Go.Proofs.YtddobhneplfddaaDoor

namespace Go.Proofs.YtddobhneplfddaaDoor
set_option maxRecDepth 100000
open Go.RowKit
set_option linter.unusedSimpArgs false
set_option linter.unusedVariables false
set_option maxHeartbeats 4000000 in
theorem fixedL (w : World) (ht : TabOk w) : Calls Tryd.prog 13 #[] w fun e w' => e = .returned (.bool true) ∧ Below w.heap.size w w' := by
  have F0 := FixMem.start w
  have HT := Lib.hid ht
  clear ht
  go_enter Tryd.func13, Tryd.ntmps13
  have m0 := F0.b4.cell 0
  have m1 := F0.b4.cell 1
  simp only [List.getElem?_toArray, List.getElem?_cons_zero, List.getElem?_cons_succ] at m0 m1
  go_wp2_with fail
  go_at_call 15
  refine (fix_Run F0 HT.out).mono ?_
  rintro e V1 ⟨ib, cb, rfl, hA1, hb1⟩
  have F1 := F0.go hb1
  have B1 := F1.below
  have lm1 := F1.b4.lt
  have lA := hA1
  clear m0 m1 F0 hb1
  have HA1 := Lib.hid hA1
  clear hA1 lA
  have F2 : FixMem w ((((((((((((V1.alloc (.cells #[.slice (some ⟨ib, 0, none⟩) 3 3, .slice (some ⟨cb, 0, none⟩) 3 3] 39)).alloc (.cells #[.int .i64 (-3), .int .i64 9] 34)).alloc (.cells #[.int .i64 0, .int .i64 9223372036854775807] 34)).alloc (.cells #[.int .i64 (-3), .int .i64 9, .int .i64 0, .int .i64 9223372036854775807] 34)).alloc (.cells #[.int .i64 (-3), .int .i64 9, .int .i64 0, .int .i64 8] 34)).alloc (.cells #[.int .i64 (-3), .int .i64 9, .int .i64 0, .int .i64 9223372036854775807] 34)).alloc (.cells #[.slice (some ⟨V1.heap.size + 1 + 1 + 1, 0, none⟩) 2 2, .slice (some ⟨V1.heap.size + 1 + 1 + 1 + 1, 0, none⟩) 2 2, .slice (some ⟨V1.heap.size + 1 + 1 + 1 + 1 + 1, 0, none⟩) 2 2] 26)).alloc (.cells #[.int .i64 0, .int .i64 6] 3)).alloc (.cells #[.int .i64 0, .int .i64 5] 3)).alloc (.cells #[.int .i64 0, .int .i64 6] 3)).alloc (.cells #[.slice (some ⟨V1.heap.size + 1 + 1 + 1 + 1 + 1 + 1 + 1, 0, none⟩) 2 2, .slice (some ⟨V1.heap.size + 1 + 1 + 1 + 1 + 1 + 1 + 1 + 1, 0, none⟩) 2 2, .slice (some ⟨V1.heap.size + 1 + 1 + 1 + 1 + 1 + 1 + 1 + 1 + 1, 0, none⟩) 2 2] 44)).alloc (.cells #[.slice (some ⟨V1.heap.size + 1 + 1 + 1 + 1 + 1 + 1, 0, none⟩) 3 3, .slice (some ⟨V1.heap.size + 1 + 1 + 1 + 1 + 1 + 1 + 1 + 1 + 1 + 1, 0, none⟩) 3 3] 39)) := F1.go (below_allocs [(39, #[.slice (some ⟨ib, 0, none⟩) 3 3, .slice (some ⟨cb, 0, none⟩) 3 3]), (34, #[.int .i64 (-3), .int .i64 9]), (34, #[.int .i64 0, .int .i64 9223372036854775807]), (34, #[.int .i64 (-3), .int .i64 9, .int .i64 0, .int .i64 9223372036854775807]), (34, #[.int .i64 (-3), .int .i64 9, .int .i64 0, .int .i64 8]), (34, #[.int .i64 (-3), .int .i64 9, .int .i64 0, .int .i64 9223372036854775807]), (26, #[.slice (some ⟨V1.heap.size + 1 + 1 + 1, 0, none⟩) 2 2, .slice (some ⟨V1.heap.size + 1 + 1 + 1 + 1, 0, none⟩) 2 2, .slice (some ⟨V1.heap.size + 1 + 1 + 1 + 1 + 1, 0, none⟩) 2 2]), (3, #[.int .i64 0, .int .i64 6]), (3, #[.int .i64 0, .int .i64 5]), (3, #[.int .i64 0, .int .i64 6]), (44, #[.slice (some ⟨V1.heap.size + 1 + 1 + 1 + 1 + 1 + 1 + 1, 0, none⟩) 2 2, .slice (some ⟨V1.heap.size + 1 + 1 + 1 + 1 + 1 + 1 + 1 + 1, 0, none⟩) 2 2, .slice (some ⟨V1.heap.size + 1 + 1 + 1 + 1 + 1 + 1 + 1 + 1 + 1, 0, none⟩) 2 2]), (39, #[.slice (some ⟨V1.heap.size + 1 + 1 + 1 + 1 + 1 + 1, 0, none⟩) 3 3, .slice (some ⟨V1.heap.size + 1 + 1 + 1 + 1 + 1 + 1 + 1 + 1 + 1 + 1, 0, none⟩) 3 3])] V1 (Below.refl _ _))
  have A2 : Whl ((((((((((((V1.alloc (.cells #[.slice (some ⟨ib, 0, none⟩) 3 3, .slice (some ⟨cb, 0, none⟩) 3 3] 39)).alloc (.cells #[.int .i64 (-3), .int .i64 9] 34)).alloc (.cells #[.int .i64 0, .int .i64 9223372036854775807] 34)).alloc (.cells #[.int .i64 (-3), .int .i64 9, .int .i64 0, .int .i64 9223372036854775807] 34)).alloc (.cells #[.int .i64 (-3), .int .i64 9, .int .i64 0, .int .i64 8] 34)).alloc (.cells #[.int .i64 (-3), .int .i64 9, .int .i64 0, .int .i64 9223372036854775807] 34)).alloc (.cells #[.slice (some ⟨V1.heap.size + 1 + 1 + 1, 0, none⟩) 2 2, .slice (some ⟨V1.heap.size + 1 + 1 + 1 + 1, 0, none⟩) 2 2, .slice (some ⟨V1.heap.size + 1 + 1 + 1 + 1 + 1, 0, none⟩) 2 2] 26)).alloc (.cells #[.int .i64 0, .int .i64 6] 3)).alloc (.cells #[.int .i64 0, .int .i64 5] 3)).alloc (.cells #[.int .i64 0, .int .i64 6] 3)).alloc (.cells #[.slice (some ⟨V1.heap.size + 1 + 1 + 1 + 1 + 1 + 1 + 1, 0, none⟩) 2 2, .slice (some ⟨V1.heap.size + 1 + 1 + 1 + 1 + 1 + 1 + 1 + 1, 0, none⟩) 2 2, .slice (some ⟨V1.heap.size + 1 + 1 + 1 + 1 + 1 + 1 + 1 + 1 + 1, 0, none⟩) 2 2] 44)).alloc (.cells #[.slice (some ⟨V1.heap.size + 1 + 1 + 1 + 1 + 1 + 1, 0, none⟩) 3 3, .slice (some ⟨V1.heap.size + 1 + 1 + 1 + 1 + 1 + 1 + 1 + 1 + 1 + 1, 0, none⟩) 3 3] 39)) (V1.heap.size) 39 #[.slice (some ⟨ib, 0, none⟩) 3 3, .slice (some ⟨cb, 0, none⟩) 3 3] := whl_allocs [(39, #[.slice (some ⟨ib, 0, none⟩) 3 3, .slice (some ⟨cb, 0, none⟩) 3 3]), (34, #[.int .i64 (-3), .int .i64 9]), (34, #[.int .i64 0, .int .i64 9223372036854775807]), (34, #[.int .i64 (-3), .int .i64 9, .int .i64 0, .int .i64 9223372036854775807]), (34, #[.int .i64 (-3), .int .i64 9, .int .i64 0, .int .i64 8]), (34, #[.int .i64 (-3), .int .i64 9, .int .i64 0, .int .i64 9223372036854775807]), (26, #[.slice (some ⟨V1.heap.size + 1 + 1 + 1, 0, none⟩) 2 2, .slice (some ⟨V1.heap.size + 1 + 1 + 1 + 1, 0, none⟩) 2 2, .slice (some ⟨V1.heap.size + 1 + 1 + 1 + 1 + 1, 0, none⟩) 2 2]), (3, #[.int .i64 0, .int .i64 6]), (3, #[.int .i64 0, .int .i64 5]), (3, #[.int .i64 0, .int .i64 6]), (44, #[.slice (some ⟨V1.heap.size + 1 + 1 + 1 + 1 + 1 + 1 + 1, 0, none⟩) 2 2, .slice (some ⟨V1.heap.size + 1 + 1 + 1 + 1 + 1 + 1 + 1 + 1, 0, none⟩) 2 2, .slice (some ⟨V1.heap.size + 1 + 1 + 1 + 1 + 1 + 1 + 1 + 1 + 1, 0, none⟩) 2 2]), (39, #[.slice (some ⟨V1.heap.size + 1 + 1 + 1 + 1 + 1 + 1, 0, none⟩) 3 3, .slice (some ⟨V1.heap.size + 1 + 1 + 1 + 1 + 1 + 1 + 1 + 1 + 1 + 1, 0, none⟩) 3 3])] V1 0 _ _ rfl
  have E2 : Whl ((((((((((((V1.alloc (.cells #[.slice (some ⟨ib, 0, none⟩) 3 3, .slice (some ⟨cb, 0, none⟩) 3 3] 39)).alloc (.cells #[.int .i64 (-3), .int .i64 9] 34)).alloc (.cells #[.int .i64 0, .int .i64 9223372036854775807] 34)).alloc (.cells #[.int .i64 (-3), .int .i64 9, .int .i64 0, .int .i64 9223372036854775807] 34)).alloc (.cells #[.int .i64 (-3), .int .i64 9, .int .i64 0, .int .i64 8] 34)).alloc (.cells #[.int .i64 (-3), .int .i64 9, .int .i64 0, .int .i64 9223372036854775807] 34)).alloc (.cells #[.slice (some ⟨V1.heap.size + 1 + 1 + 1, 0, none⟩) 2 2, .slice (some ⟨V1.heap.size + 1 + 1 + 1 + 1, 0, none⟩) 2 2, .slice (some ⟨V1.heap.size + 1 + 1 + 1 + 1 + 1, 0, none⟩) 2 2] 26)).alloc (.cells #[.int .i64 0, .int .i64 6] 3)).alloc (.cells #[.int .i64 0, .int .i64 5] 3)).alloc (.cells #[.int .i64 0, .int .i64 6] 3)).alloc (.cells #[.slice (some ⟨V1.heap.size + 1 + 1 + 1 + 1 + 1 + 1 + 1, 0, none⟩) 2 2, .slice (some ⟨V1.heap.size + 1 + 1 + 1 + 1 + 1 + 1 + 1 + 1, 0, none⟩) 2 2, .slice (some ⟨V1.heap.size + 1 + 1 + 1 + 1 + 1 + 1 + 1 + 1 + 1, 0, none⟩) 2 2] 44)).alloc (.cells #[.slice (some ⟨V1.heap.size + 1 + 1 + 1 + 1 + 1 + 1, 0, none⟩) 3 3, .slice (some ⟨V1.heap.size + 1 + 1 + 1 + 1 + 1 + 1 + 1 + 1 + 1 + 1, 0, none⟩) 3 3] 39)) (V1.heap.size + 1 + 1 + 1 + 1 + 1 + 1 + 1 + 1 + 1 + 1 + 1) 39 #[.slice (some ⟨V1.heap.size + 1 + 1 + 1 + 1 + 1 + 1, 0, none⟩) 3 3, .slice (some ⟨V1.heap.size + 1 + 1 + 1 + 1 + 1 + 1 + 1 + 1 + 1 + 1, 0, none⟩) 3 3] := whl_allocs [(39, #[.slice (some ⟨ib, 0, none⟩) 3 3, .slice (some ⟨cb, 0, none⟩) 3 3]), (34, #[.int .i64 (-3), .int .i64 9]), (34, #[.int .i64 0, .int .i64 9223372036854775807]), (34, #[.int .i64 (-3), .int .i64 9, .int .i64 0, .int .i64 9223372036854775807]), (34, #[.int .i64 (-3), .int .i64 9, .int .i64 0, .int .i64 8]), (34, #[.int .i64 (-3), .int .i64 9, .int .i64 0, .int .i64 9223372036854775807]), (26, #[.slice (some ⟨V1.heap.size + 1 + 1 + 1, 0, none⟩) 2 2, .slice (some ⟨V1.heap.size + 1 + 1 + 1 + 1, 0, none⟩) 2 2, .slice (some ⟨V1.heap.size + 1 + 1 + 1 + 1 + 1, 0, none⟩) 2 2]), (3, #[.int .i64 0, .int .i64 6]), (3, #[.int .i64 0, .int .i64 5]), (3, #[.int .i64 0, .int .i64 6]), (44, #[.slice (some ⟨V1.heap.size + 1 + 1 + 1 + 1 + 1 + 1 + 1, 0, none⟩) 2 2, .slice (some ⟨V1.heap.size + 1 + 1 + 1 + 1 + 1 + 1 + 1 + 1, 0, none⟩) 2 2, .slice (some ⟨V1.heap.size + 1 + 1 + 1 + 1 + 1 + 1 + 1 + 1 + 1, 0, none⟩) 2 2]), (39, #[.slice (some ⟨V1.heap.size + 1 + 1 + 1 + 1 + 1 + 1, 0, none⟩) 3 3, .slice (some ⟨V1.heap.size + 1 + 1 + 1 + 1 + 1 + 1 + 1 + 1 + 1 + 1, 0, none⟩) 3 3])] V1 11 _ _ rfl
  have T2 := (want_at (((V1.alloc (.cells #[.slice (some ⟨ib, 0, none⟩) 3 3, .slice (some ⟨cb, 0, none⟩) 3 3] 39)).alloc (.cells #[.int .i64 (-3), .int .i64 9] 34)).alloc (.cells #[.int .i64 0, .int .i64 9223372036854775807] 34))).1
  have Y2 : Below V1.heap.size V1 ((((((((((((V1.alloc (.cells #[.slice (some ⟨ib, 0, none⟩) 3 3, .slice (some ⟨cb, 0, none⟩) 3 3] 39)).alloc (.cells #[.int .i64 (-3), .int .i64 9] 34)).alloc (.cells #[.int .i64 0, .int .i64 9223372036854775807] 34)).alloc (.cells #[.int .i64 (-3), .int .i64 9, .int .i64 0, .int .i64 9223372036854775807] 34)).alloc (.cells #[.int .i64 (-3), .int .i64 9, .int .i64 0, .int .i64 8] 34)).alloc (.cells #[.int .i64 (-3), .int .i64 9, .int .i64 0, .int .i64 9223372036854775807] 34)).alloc (.cells #[.slice (some ⟨V1.heap.size + 1 + 1 + 1, 0, none⟩) 2 2, .slice (some ⟨V1.heap.size + 1 + 1 + 1 + 1, 0, none⟩) 2 2, .slice (some ⟨V1.heap.size + 1 + 1 + 1 + 1 + 1, 0, none⟩) 2 2] 26)).alloc (.cells #[.int .i64 0, .int .i64 6] 3)).alloc (.cells #[.int .i64 0, .int .i64 5] 3)).alloc (.cells #[.int .i64 0, .int .i64 6] 3)).alloc (.cells #[.slice (some ⟨V1.heap.size + 1 + 1 + 1 + 1 + 1 + 1 + 1, 0, none⟩) 2 2, .slice (some ⟨V1.heap.size + 1 + 1 + 1 + 1 + 1 + 1 + 1 + 1, 0, none⟩) 2 2, .slice (some ⟨V1.heap.size + 1 + 1 + 1 + 1 + 1 + 1 + 1 + 1 + 1, 0, none⟩) 2 2] 44)).alloc (.cells #[.slice (some ⟨V1.heap.size + 1 + 1 + 1 + 1 + 1 + 1, 0, none⟩) 3 3, .slice (some ⟨V1.heap.size + 1 + 1 + 1 + 1 + 1 + 1 + 1 + 1 + 1 + 1, 0, none⟩) 3 3] 39)) := below_allocs [(39, #[.slice (some ⟨ib, 0, none⟩) 3 3, .slice (some ⟨cb, 0, none⟩) 3 3]), (34, #[.int .i64 (-3), .int .i64 9]), (34, #[.int .i64 0, .int .i64 9223372036854775807]), (34, #[.int .i64 (-3), .int .i64 9, .int .i64 0, .int .i64 9223372036854775807]), (34, #[.int .i64 (-3), .int .i64 9, .int .i64 0, .int .i64 8]), (34, #[.int .i64 (-3), .int .i64 9, .int .i64 0, .int .i64 9223372036854775807]), (26, #[.slice (some ⟨V1.heap.size + 1 + 1 + 1, 0, none⟩) 2 2, .slice (some ⟨V1.heap.size + 1 + 1 + 1 + 1, 0, none⟩) 2 2, .slice (some ⟨V1.heap.size + 1 + 1 + 1 + 1 + 1, 0, none⟩) 2 2]), (3, #[.int .i64 0, .int .i64 6]), (3, #[.int .i64 0, .int .i64 5]), (3, #[.int .i64 0, .int .i64 6]), (44, #[.slice (some ⟨V1.heap.size + 1 + 1 + 1 + 1 + 1 + 1 + 1, 0, none⟩) 2 2, .slice (some ⟨V1.heap.size + 1 + 1 + 1 + 1 + 1 + 1 + 1 + 1, 0, none⟩) 2 2, .slice (some ⟨V1.heap.size + 1 + 1 + 1 + 1 + 1 + 1 + 1 + 1 + 1, 0, none⟩) 2 2]), (39, #[.slice (some ⟨V1.heap.size + 1 + 1 + 1 + 1 + 1 + 1, 0, none⟩) 3 3, .slice (some ⟨V1.heap.size + 1 + 1 + 1 + 1 + 1 + 1 + 1 + 1 + 1 + 1, 0, none⟩) 3 3])] V1 (Below.refl _ _)
  have X2 := HA1.out.step Y2
  have hz3 : (((V1.alloc (.cells #[.slice (some ⟨ib, 0, none⟩) 3 3, .slice (some ⟨cb, 0, none⟩) 3 3] 39)).alloc (.cells #[.int .i64 (-3), .int .i64 9] 34)).alloc (.cells #[.int .i64 0, .int .i64 9223372036854775807] 34)).heap.size = V1.heap.size + 1 + 1 + 1 := by simp only [World.size_alloc]
  rw [hz3] at T2
  go_upto_region 6 with (fail)
  obtain ⟨W2, hW2⟩ : ∃ W2, ((((((((((((V1.alloc (.cells #[.slice (some ⟨ib, 0, none⟩) 3 3, .slice (some ⟨cb, 0, none⟩) 3 3] 39)).alloc (.cells #[.int .i64 (-3), .int .i64 9] 34)).alloc (.cells #[.int .i64 0, .int .i64 9223372036854775807] 34)).alloc (.cells #[.int .i64 (-3), .int .i64 9, .int .i64 0, .int .i64 9223372036854775807] 34)).alloc (.cells #[.int .i64 (-3), .int .i64 9, .int .i64 0, .int .i64 8] 34)).alloc (.cells #[.int .i64 (-3), .int .i64 9, .int .i64 0, .int .i64 9223372036854775807] 34)).alloc (.cells #[.slice (some ⟨V1.heap.size + 1 + 1 + 1, 0, none⟩) 2 2, .slice (some ⟨V1.heap.size + 1 + 1 + 1 + 1, 0, none⟩) 2 2, .slice (some ⟨V1.heap.size + 1 + 1 + 1 + 1 + 1, 0, none⟩) 2 2] 26)).alloc (.cells #[.int .i64 0, .int .i64 6] 3)).alloc (.cells #[.int .i64 0, .int .i64 5] 3)).alloc (.cells #[.int .i64 0, .int .i64 6] 3)).alloc (.cells #[.slice (some ⟨V1.heap.size + 1 + 1 + 1 + 1 + 1 + 1 + 1, 0, none⟩) 2 2, .slice (some ⟨V1.heap.size + 1 + 1 + 1 + 1 + 1 + 1 + 1 + 1, 0, none⟩) 2 2, .slice (some ⟨V1.heap.size + 1 + 1 + 1 + 1 + 1 + 1 + 1 + 1 + 1, 0, none⟩) 2 2] 44)).alloc (.cells #[.slice (some ⟨V1.heap.size + 1 + 1 + 1 + 1 + 1 + 1, 0, none⟩) 3 3, .slice (some ⟨V1.heap.size + 1 + 1 + 1 + 1 + 1 + 1 + 1 + 1 + 1 + 1, 0, none⟩) 3 3] 39)) = W2 := ⟨_, rfl⟩
  rw [hW2] at F2 A2 E2 T2 Y2 X2 ⊢
  clear hW2 hz3 lm1 F1
  have m0 := F2.b4.cell 0
  have m1 := F2.b4.cell 1
  have lm := F2.b4.lt
  simp only [List.getElem?_toArray, List.getElem?_cons_zero, List.getElem?_cons_succ] at m0 m1
  have B2 := F2.below
  go_wp2_with fail
  go_at_call 10
  refine (fix_Edge F2 HT.out).mono ?_
  rintro e V3 ⟨eg, ec, rfl, hR3, hb3⟩
  have B3 := below_step B2 hb3
  have A3 := A2.below' hb3
  have E3 := E2.below' hb3
  have T3 := T2.step hb3
  have X3 := X2.step hb3
  have a0 := A3.cell 0
  have a1 := A3.cell 1
  have e0 := E3.cell 0
  have e1 := E3.cell 1
  have la := A3.lt
  have le := E3.lt
  simp only [List.getElem?_toArray, List.getElem?_cons_zero, List.getElem?_cons_succ] at a0 a1 e0 e1
  have ST := Lib.hid (sameAT _ _ _ _ 3 3 3 3 wantI wantC (by unfold maxLen; decide) (by unfold maxLen; decide) V3 X3 T3)
  have HR3 := Lib.hid hR3
  clear m0 m1 lm A2 E2 T2 X2 X3 T3 hR3
  go_wp2_with fail
  go_at_call 17
  refine ST.out.mono ?_
  rintro e V4 ⟨rfl, hb4⟩
  have B4 := below_step B3 hb4
  have D4 := Whl.new V4 34 #[.int .i64 3, .int .i64 5, .int .i64 0, .int .i64 4]
  have hD : RowsAt (V4.alloc (.cells #[.int .i64 3, .int .i64 5, .int .i64 0, .int .i64 4] 34)) (V4.alloc (.cells #[.int .i64 3, .int .i64 5, .int .i64 0, .int .i64 4] 34)).heap.size (some ⟨V4.heap.size, 0, none⟩) 2 2 (fun k => spV (nthS [⟨3, 5⟩, ⟨0, 4⟩] k)) := fun _ => ⟨_, 0, rfl, D4.lt, fun k hk j hj => by
    rw [D4.cell]
    obtain rfl | rfl : k = 0 ∨ k = 1 := by omega
    all_goals
      obtain rfl | rfl : j = 0 ∨ j = 1 := by omega
      all_goals rfl⟩
  have hE := ((HR3.out.below hb4 (Nat.le_refl _)).more hb4.size).below (below_alloc (Below.refl _ _) (.cells #[.int .i64 3, .int .i64 5, .int .i64 0, .int .i64 4] 34)) (Nat.le_refl _)
  have SS := Lib.hid (sameSpansS (some ⟨eg, 0, none⟩) (some ⟨V4.heap.size, 0, none⟩) ec 2 [⟨3, 5⟩, ⟨0, 4⟩] (by unfold maxLen; decide) _ (hE.more (by simp)) hD)
  clear hD hE D4
  go_wp2_with fail
  go_at_call 14
  refine SS.out.mono ?_
  rintro e V5 ⟨rfl, hb5⟩
  go_wp2
  go_ret
  exact ⟨rfl, below_step (below_alloc B4 _) hb5⟩
end Go.Proofs.YtddobhneplfddaaDoor

namespace Go.Proofs.YtddobhneplfddaaDoor
set_option maxRecDepth 100000
open Go.RowKit
set_option linter.unusedSimpArgs false
set_option linter.unusedVariables false
set_option maxHeartbeats 4000000 in
theorem fewL0 (m : ModD) (fn : Int) (w : World) (ht : TabOk w) (wm : m.Wf) (nm : m.Nils) (hm : ModOk w w.heap.size m) (h : (mayD m).e ≠ 0 ∨ fn < 0 ∨ (m.funcs.length : Int) ≤ fn) : Calls Tryd.prog 5 #[m.val, .int .i64 fn] w fun e w' => e = .returned (.bool true) ∧ Below w.heap.size w w' := by
  have HM := Lib.hid hm
  have HH := Lib.hid h
  clear hm h
  have B0 : Below w.heap.size w (w.alloc (.cells #[.slice m.ta m.ths.length m.tc, .slice m.fa m.funcs.length m.fc] 25)) := below_alloc (Below.refl _ _) _
  have P0 := Whl.new w 25 #[.slice m.ta m.ths.length m.tc, .slice m.fa m.funcs.length m.fc]
  go_enter Tryd.func5, Tryd.ntmps5
  go_wp2_with fail
  go_at_call 13
  refine (fixedL _ (ht.below B0 ht.size)).mono ?_
  rintro e w1 ⟨rfl, hb1⟩
  have B1 := below_step B0 hb1
  have P1 := P0.below' hb1
  have a0 := P1.cell 0
  have a1 := P1.cell 1
  simp only [List.getElem?_toArray, List.getElem?_cons_zero, List.getElem?_cons_succ] at a0 a1
  clear hb1
  go_wp2_with fail
  go_at_call 15
  refine (runP m fn wm nm _ ((HM.out.below B1 (Nat.le_refl _)).more B1.size) (ht.below B1 ht.size)).mono ?_
  rintro e w2 ⟨hb2, h2⟩
  have B2 := below_step B1 hb2
  have key : ∃ c : Int, (c != 0) = true ∧ e = .returned (.tuple #[.agg #[.slice none 0 0, .slice none 0 0], .int .i64 c]) := by
    rcases h2 with ⟨h0, he⟩ | ⟨_, _, he⟩ | ⟨h0, kf, e0, hk, _⟩
    · exact ⟨_, by simpa using h0, he⟩
    · exact ⟨1, by decide, he⟩
    · exfalso
      rcases HH.out with q | q | q
      · exact q h0
      · omega
      · omega
  obtain ⟨c, hc, rfl⟩ := key
  clear h2 hb2 a0 a1
  go_wp2
  go_ret
  exact ⟨by simp, below_alloc B2 _⟩
/-- What lies in memory in the laws that read an analysis. -/
structure LawM (w : World) (m : ModD) (n R sb ab : Nat) (L : Lay) (s : StD) (V : World) : Prop where
  below : Below w.heap.size w V
  mb : Whl V w.heap.size 25 #[.slice m.ta m.ths.length m.tc, .slice m.fa m.funcs.length m.fc]
  ab : Whl V ab 39 #[.slice (some ⟨L.inb, 0, none⟩) n n, .slice (some ⟨L.chb, 0, none⟩) n n]
  st : StP V w.heap.size n R sb L s
theorem LawM.drewN {w V : World} {m : ModD} {n R sb ab : Nat} {L : Lay} {s : StD} (h : LawM w m n R sb ab L s V) (k : Nat) : LawM w m n R sb ab L s (V.drewN k) := ⟨below_drewN h.below k, h.mb, h.ab, h.st.drewN k⟩
set_option maxHeartbeats 8000000 in
theorem fewL1 (m : ModD) (kf : Nat) (w : World) (ht : TabOk w) (wm : m.Wf) (nm : m.Nils) (hm : ModOk w w.heap.size m) (hmay : mayD m = ⟨0, 0, 0⟩) (hkm : kf < m.funcs.length) : Calls Tryd.prog 5 #[m.val, .int .i64 kf] w fun e w' => e = .returned (.bool true) ∧ Below w.heap.size w w' := by
  obtain ⟨fb, fo, hfa, hfb, u0, u1, u2, u3, u4⟩ := funcs_cells hm.funcs hkm
  have hr1 := (f_ok hmay hkm).regs
  have hn1 := (f_ok2 hmay hkm).2.1
  have hth := (may_few hmay).1
  obtain ⟨F, hF⟩ : ∃ F, nthF m.funcs kf = F := ⟨_, rfl⟩
  have hgood := fun s (hs : Final m (nthF m.funcs kf) s) => hs.good wm hmay hkm
  rw [hF] at u0 u1 u2 u3 u4 hr1 hn1 hgood
  obtain ⟨R, hRR⟩ : ∃ R : Nat, F.regs = (R : Int) := ⟨F.regs.toNat, by omega⟩
  rw [hRR] at u2 hr1
  have HM := Lib.hid hm
  have HY := Lib.hid hmay
  have HF := Lib.hid hF
  have HR := Lib.hid hRR
  have HG := Lib.hid hgood
  have HA := Lib.hid hfa
  have hkf : ((kf : Nat) : Int) < (m.funcs.length : Int) := by omega
  have hk0 : decide (((kf : Nat) : Int) < 0) = false := by simp
  have hk1 : decide (m.funcs.length ≤ kf) = false := by simp; omega
  have hk2 : decide ((m.funcs.length : Int) ≤ (kf : Int)) = false := by simp; omega
  clear hm hmay hF hRR hgood hfa u0 u1 u3
  have B0 : Below w.heap.size w (w.alloc (.cells #[.slice m.ta m.ths.length m.tc, .slice m.fa m.funcs.length m.fc] 25)) := below_alloc (Below.refl _ _) _
  have P0 := Whl.new w 25 #[.slice m.ta m.ths.length m.tc, .slice m.fa m.funcs.length m.fc]
  go_enter Tryd.func5, Tryd.ntmps5
  go_wp2_with fail
  go_at_call 13
  refine (fixedL _ (ht.below B0 ht.size)).mono ?_
  rintro e w1 ⟨rfl, hb1⟩
  have B1 := below_step B0 hb1
  have P1 := P0.below' hb1
  have a0 := P1.cell 0
  have a1 := P1.cell 1
  simp only [List.getElem?_toArray, List.getElem?_cons_zero, List.getElem?_cons_succ] at a0 a1
  clear hb1
  go_wp2_with fail
  go_at_call 15
  refine (runP m kf wm nm _ ((HM.out.below B1 (Nat.le_refl _)).more B1.size) (ht.below B1 ht.size)).mono ?_
  rintro e w2 ⟨hb2, h2⟩
  have B2 := below_step B1 hb2
  have P2 := P1.below' hb2
  rw [HY.out] at h2
  obtain ⟨L, sb, s, hfin, rfl, hS⟩ : ∃ L sb s, Final m F s ∧ e = .returned (.tuple #[.agg #[.slice (some ⟨L.inb, 0, none⟩) F.code.length F.code.length, .slice (some ⟨L.chb, 0, none⟩) F.code.length F.code.length], .int .i64 0]) ∧ StP w2 w1.heap.size F.code.length R sb L s := by
    rcases h2 with ⟨h0, _⟩ | ⟨_, h0, _⟩ | ⟨_, k2, e0, hk, h3⟩
    · exact absurd rfl h0
    · exfalso; omega
    · obtain rfl : k2 = kf := by omega
      rw [HF.out, HR.out, Int.toNat_natCast] at h3
      exact h3
  have hS2 : StP w2 w.heap.size F.code.length R sb L s := ⟨hS.st, hS.ins, hS.chs, hS.mks, hS.jns, hS.rows, hS.cnts, hS.apart, hS.ca, hS.ga, fun k hk => Nat.le_trans B1.size (hS.old k hk)⟩
  have M2 : LawM w m F.code.length R sb w2.heap.size L s (w2.alloc (.cells #[.slice (some ⟨L.inb, 0, none⟩) F.code.length F.code.length, .slice (some ⟨L.chb, 0, none⟩) F.code.length F.code.length] 39)) :=
    ⟨below_alloc B2 _, P2.alloc _, Whl.new _ _ _, hS2.alloc _⟩
  have HFI := Lib.hid hfin
  clear h2 hb2 a0 a1 hS hS2 hfin
  go_upto_region 4 with (fail)
  obtain ⟨V, hV⟩ : ∃ V, (w2.alloc (.cells #[.slice (some ⟨L.inb, 0, none⟩) F.code.length F.code.length, .slice (some ⟨L.chb, 0, none⟩) F.code.length F.code.length] 39)) = V := ⟨_, rfl⟩
  rw [hV] at M2 ⊢
  generalize w2.heap.size = ab at *
  obtain ⟨hg, _, _⟩ := HG.out s HFI.out
  have HGS := Lib.hid hg
  clear hV P2 B2 hg P1 P0 B0
  have e0 := M2.mb.cell 0
  have e1 := M2.mb.cell 1
  have e2 := M2.ab.cell 0
  have e3 := M2.ab.cell 1
  have l0 := M2.mb.lt
  have l1 := M2.ab.lt
  simp only [List.getElem?_toArray, List.getElem?_cons_zero, List.getElem?_cons_succ] at e0 e1 e2 e3
  rw [HA.out] at e1
  have u4V := u4
  have u2V := u2
  rw [← M2.below.cell (p := ⟨fb, fo + kf * 5 + 4, none⟩) hfb] at u4V
  rw [← M2.below.cell (p := ⟨fb, fo + kf * 5 + 2, none⟩) hfb] at u2V
  have hnn : ((F.code.length : Int) != (F.code.length : Int)) = false := by simp
  have hne : ((F.code.length : Int) == (F.code.length : Int)) = true := by simp
  have hRn : ((R : Int) != (R : Int)) = false := by simp
  have hRe : ((R : Int) == (R : Int)) = true := by simp
  have hRz : ((R : Int) != 0) = true := by simp; omega
  have hRy : ((R : Int) == 0) = false := by simp; omega
  go_wp2
  go_quiet (fail)
  go_wp2
  go_loopw [7] (fun i V => ∃ k : Nat, k ≤ F.code.length ∧ i = .int .i64 k ∧ LawM w m F.code.length R sb ab L s V) (fun i _ => F.code.length - (intOf i).toNat)
  case atStart => exact ⟨0, Nat.zero_le _, rfl, M2.drewN _⟩
  case round =>
    clear e0 e1 e2 e3 l0 l1 u4V u2V M2
    obtain ⟨k, hk, rfl, M2⟩ := hrel
    have e0 := M2.mb.cell 0
    have e1 := M2.mb.cell 1
    have e2 := M2.ab.cell 0
    have e3 := M2.ab.cell 1
    have l0 := M2.mb.lt
    have l1 := M2.ab.lt
    simp only [List.getElem?_toArray, List.getElem?_cons_zero, List.getElem?_cons_succ] at e0 e1 e2 e3
    rw [HA.out] at e1
    have u2V := u2
    rw [← M2.below.cell (p := ⟨fb, fo + kf * 5 + 2, none⟩) hfb] at u2V
    by_cases hlt : k < F.code.length
    · have hki : (k : Int) < (F.code.length : Int) := by omega
      have q1 := M2.st.chsC hlt
      have q2 := M2.st.insC hlt
      simp only [chV] at q1
      obtain ⟨cl, hcl⟩ : ∃ cl, s.changes.getD k [] = cl := ⟨_, rfl⟩
      have hcn := M2.st.cnts k hlt
      have hrow := HGS.out.ok.row k hlt
      rw [HR.out, Int.toNat_natCast] at hrow
      rw [hcl] at hcn hrow
      obtain ⟨IA, nI, cI, hIV, hlen, hcnt⟩ : ∃ (A : Option Addr) (nI cI : Nat), inV L R s k = .slice A nI cI ∧ (nI = 0 ∨ nI = R) ∧ ∀ j, j < R → cl.getD j 0 ≤ 4 + m.ths.length + 2 ∧ (nI = 0 → cl.getD j 0 = 0) := by
        cases ho : s.ins.getD k none with
        | none =>
          refine ⟨none, 0, 0, by rw [inV, ho], .inl rfl, fun j _ => ?_⟩
          have := (HGS.out.ok.none k ho).2.2 j
          rw [hcl] at this
          omega
        | some l =>
          refine ⟨_, R, _, by rw [inV, ho], .inr rfl, fun j hj => ⟨?_, fun h => by omega⟩⟩
          have := (HGS.out.ok.some k l ho).2.2 j (by rw [HR.out, Int.toNat_natCast]; exact hj)
          rw [hcl] at this
          omega
      rw [hIV] at q2
      have HCT := Lib.hid hcnt
      have HIV := Lib.hid hIV
      have HCL := Lib.hid hcl
      have HCN := Lib.hid hcn
      have HRW := Lib.hid hrow
      clear hcnt hIV hcn hrow hcl
      rcases hlen with hl | hl
      all_goals
        rw [hl] at q2
        have HL := Lib.hid hl
        clear hl
        go_wp2
        go_quiet (fail)
        go_wp2
        go_loopw [8] (fun i V => ∃ j : Nat, j ≤ R ∧ i = .int .i64 j ∧ LawM w m F.code.length R sb ab L s V) (fun i _ => R - (intOf i).toNat)
        case atStart => exact ⟨0, Nat.zero_le _, rfl, M2.drewN _⟩
        case round =>
          clear e0 e1 e2 e3 l0 l1 u2V M2 q1 q2
          obtain ⟨j, hj, rfl, M2⟩ := hrel
          have e0 := M2.mb.cell 0
          have e1 := M2.mb.cell 1
          have e2 := M2.ab.cell 0
          have e3 := M2.ab.cell 1
          have l0 := M2.mb.lt
          have l1 := M2.ab.lt
          simp only [List.getElem?_toArray, List.getElem?_cons_zero, List.getElem?_cons_succ] at e0 e1 e2 e3
          have q1 := M2.st.chsC hlt
          simp only [chV] at q1
          have q2 := M2.st.insC hlt
          rw [HIV.out, HL.out] at q2
          by_cases hjl : j < R
          · have hji : (j : Int) < (R : Int) := by omega
            have q3 := M2.st.cntC (k := j) hlt (by rw [HCL.out, HRW.out]; exact hjl)
            rw [HCL.out] at q3
            obtain ⟨c1, c2⟩ := HCT.out j hjl
            generalize cl.getD j 0 = c at *
            have hc0 : decide ((c : Int) < 0) = false := by simp
            have g1 : decide ((4 : Int) + (m.ths.length : Int) + 2 < (c : Int)) = false := by simp; omega
            first
              | (have hcz : c = 0 := c2 HL.out
                 subst hcz
                 clear c2 c1
                 go_wp2
                 go_roundw
                 case rel => exact ⟨j + 1, by omega, by go_num, M2⟩
                 case measure => simp only [intOf]; omega)
              | (clear c2
                 go_wp2
                 go_roundw
                 case rel => exact ⟨j + 1, by omega, by go_num, M2⟩
                 case measure => simp only [intOf]; omega)
          · obtain rfl : j = R := by omega
            go_wp2
            go_roundw
            case rel => exact ⟨k + 1, by omega, by go_num, M2⟩
            case measure => simp only [intOf]; omega
    · obtain rfl : k = F.code.length := by omega
      go_wp2
      go_ret
      exact ⟨rfl, M2.below⟩
theorem fewL (m : ModD) (fn : Int) (w : World) (ht : TabOk w) (wm : m.Wf) (nm : m.Nils) (hm : ModOk w w.heap.size m) : Calls Tryd.prog 5 #[m.val, .int .i64 fn] w fun e w' => e = .returned (.bool true) ∧ Below w.heap.size w w' := by
  by_cases h : (mayD m).e ≠ 0 ∨ fn < 0 ∨ (m.funcs.length : Int) ≤ fn
  · exact fewL0 m fn w ht wm nm hm h
  · obtain ⟨kf, rfl, hkf⟩ := nat_of (show 0 ≤ fn ∧ fn < (m.funcs.length : Int) by omega)
    exact fewL1 m kf w ht wm nm hm (may_e (by omega)) (by omega)
end Go.Proofs.YtddobhneplfddaaDoor
