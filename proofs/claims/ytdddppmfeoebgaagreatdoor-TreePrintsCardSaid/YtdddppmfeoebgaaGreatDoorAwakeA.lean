/-
  Layer 2 (tree): awake, the calls whose answers the document fixes.
-/
import Derived.Test.YtdddppmfeoebgaaGreatDoorPrint
import Derived.Test.YtdddppmfeoebgaaGreatDoorSameW
import Derived.Test.YtdddppmfeoebgaaGreatDoorTreeP
import Derived.Deep.CutBlock
import Derived.Laws.StructEq
namespace Go.Proofs.YtdddppmfeoebgaaGreatDoor
open Go.RowKit
set_option linter.unusedSimpArgs false
set_option linter.unusedVariables false
set_option maxRecDepth 100000
/-! ### The program, in plain Lean -/
def awN : ExD := .mk 2 0 ⟨#[110]⟩ []
def awS1 : StD := .mk 9 ⟨#[]⟩ 0 (.mk 5 0 ⟨#[]⟩ [awN]) (.mk 0 0 ⟨#[]⟩ []) [] [] []
def awS2 : StD := .mk 1 ⟨#[]⟩ 1 (.mk 0 0 ⟨#[]⟩ []) (.mk 0 0 ⟨#[]⟩ []) [] [] []
def awF (l : List StD) : FnD := ⟨⟨#[102]⟩, [⟨⟨#[110]⟩, 0, 10⟩], l⟩
def awD (l : List StD) : PrD := ⟨[-5, 0], [awF l]⟩
theorem aw_check : checkD (awD [awS1, awS2]) = ⟨5, 0, 2⟩ := by kernel_rfl
theorem aw_check1 : checkD (awD [awS1]) = ⟨0, 0, 0⟩ := by kernel_rfl
theorem aw_nodes : nodesD (awD [awS1]) = 3 := by kernel_rfl
theorem aw_same1 : sameP (awD [awS1]) (awD [awS1]) = true := sameP_self _
theorem aw_same2 : sameP (awD [awS1, awS2]) (awD [awS1]) = false := by kernel_rfl
def awT : List UInt8 := [119, 105, 100, 101, 110, 32, 45, 53, 44, 32, 48, 59, 10, 102, 110, 32, 102, 40, 110, 32, 105, 110, 32, 48, 46, 46, 49, 48, 41, 32, 123, 10, 32, 32, 114, 101, 116, 117, 114, 110, 32, 45, 110, 59, 10, 125, 10]
theorem numD_m5 : numD (-5) = [45, 53] := by
  rw [show (-5 : Int) = -((5 : Nat) : Int) by rfl, numD_neg (by decide), numD_one (by decide)]; rfl
theorem numD_0 : numD 0 = [48] := by rw [show (0 : Int) = ((0 : Nat) : Int) by rfl, numD_one (by decide)]; rfl
theorem numD_10 : numD 10 = [49, 48] := by rw [show (10 : Int) = ((10 : Nat) : Int) by rfl, numD_more (by decide), numD_one (by decide)]; rfl
theorem aw_text : prT (awD [awS1]) = awT := by
  simp only [prT, widT, awD, fnTs, fnT, awF, List.map, paT, numD_m5, numD_0, numD_10, joinT]
  kernel_rfl
theorem aw_print : printD (awD [awS1]) = (awT, ⟨0, 0, 0⟩) := by
  rw [printD, aw_check1, if_neg (by decide), aw_text, if_neg (by decide)]
/-! ### .. and in memory -/
theorem RowsAt.whl {w : World} {B g n sz : Nat} {t : TypeId} {cs : Array Value} {val : Nat → Nat → Value} (h : Whl w g t cs) (hg : g < B) (hc : ∀ k, k < n → ∀ j, j < sz → cs[k * sz + j]? = some (val k j)) : RowsAt w B (some ⟨g, 0, none⟩) n sz val :=
  fun _ => ⟨g, 0, rfl, hg, fun k hk j hj => by rw [Nat.zero_add]; exact (h.cell _).trans (hc k hk j hj)⟩
theorem ExsAt.none (w : World) (B : Nat) (A : Option Addr) : ExsAt w B A [] := .mk (fun _ => ⟨Option.none, 0⟩) (by simp) (fun h => absurd h (by simp)) (fun k hk => absurd hk (by simp)) (fun k hk => absurd hk (by simp))
theorem StsAt.none (w : World) (B : Nat) (A : Option Addr) : StsAt w B A [] :=
  .mk (fun _ => ⟨⟨Option.none, 0⟩, ⟨Option.none, 0⟩, ⟨Option.none, 0⟩, ⟨Option.none, 0⟩, ⟨Option.none, 0⟩⟩) (fun _ _ => ⟨Option.none, 0⟩) (by simp) (fun h => absurd h (by simp)) (fun k hk => absurd hk (by simp)) (fun k hk => absurd hk (by simp)) (fun k hk => absurd hk (by simp))
    (fun k hk => absurd hk (by simp)) (fun k hk => absurd hk (by simp)) (fun k hk => absurd hk (by simp)) (fun k hk => absurd hk (by simp)) (fun k hk => absurd hk (by simp)) (fun k hk => absurd hk (by simp))
theorem small_in64 {n : Int} (h : -1000 ≤ n ∧ n ≤ 1000) : In64 n := ⟨by omega, by omega⟩
theorem zeroWf : ExWf (.mk 0 0 ⟨#[]⟩ []) := ⟨small_in64 (by decide), small_in64 (by decide), (by decide : (0 : Nat) ≤ maxLen)⟩
/-- The program's rows. -/
structure AwB (g1 g2 g3 g4 : Nat) (W : World) : Prop where
  ints : Whl W g1 2 #[.int .i64 (-5), .int .i64 0]
  pars : Whl W g2 37 #[.string ⟨#[110]⟩, .int .i64 0, .int .i64 10]
  args : Whl W g3 35 #[.int .i64 2, .int .i64 0, .string ⟨#[110]⟩, .slice none 0 0]
  body : Whl W g4 42 #[.int .i64 9, .string ⟨#[]⟩, .int .i64 0, .int .i64 5, .int .i64 0, .string ⟨#[]⟩, .slice (some ⟨g3, 0, none⟩) 1 1, .int .i64 0, .int .i64 0, .string ⟨#[]⟩, .slice none 0 0, .slice none 0 0, .slice none 0 0, .slice none 0 0, .int .i64 1, .string ⟨#[]⟩, .int .i64 1, .int .i64 0, .int .i64 0, .string ⟨#[]⟩, .slice none 0 0, .int .i64 0, .int .i64 0, .string ⟨#[]⟩, .slice none 0 0, .slice none 0 0, .slice none 0 0, .slice none 0 0]
theorem AwB.go {g1 g2 g3 g4 : Nat} {W W2 : World} (h : AwB g1 g2 g3 g4 W) (hb : Below W.heap.size W W2) : AwB g1 g2 g3 g4 W2 := ⟨h.ints.below' hb, h.pars.below' hb, h.args.below' hb, h.body.below' hb⟩
theorem AwB.drew {g1 g2 g3 g4 : Nat} {W : World} (h : AwB g1 g2 g3 g4 W) : AwB g1 g2 g3 g4 W.drew := ⟨h.ints.drew, h.pars.drew, h.args.drew, h.body.drew⟩
theorem AwB.alloc {g1 g2 g3 g4 : Nat} {W : World} (h : AwB g1 g2 g3 g4 W) (o : Obj) : AwB g1 g2 g3 g4 (W.alloc o) := ⟨h.ints.alloc _, h.pars.alloc _, h.args.alloc _, h.body.alloc _⟩
theorem AwB.far {g1 g2 g3 g4 : Nat} {W : World} (h : AwB g1 g2 g3 g4 W) {p : Addr} (n1 : g1 ≠ p.block) (n2 : g2 ≠ p.block) (n3 : g3 ≠ p.block) (n4 : g4 ≠ p.block) (v : Value) : AwB g1 g2 g3 g4 (W.setCell p v) := ⟨h.ints.far n1 v, h.pars.far n2 v, h.args.far n3 v, h.body.far n4 v⟩
theorem aw_args {g1 g2 g3 g4 : Nat} {W : World} (h : AwB g1 g2 g3 g4 W) : ExsAt W W.heap.size (some ⟨g3, 0, none⟩) [awN] :=
  .mk (fun _ => ⟨none, 0⟩) (by simp) (RowsAt.whl h.args h.args.lt fun k hk j hj => by
      obtain rfl : k = 0 := by simpa using hk
      match j, hj with
      | 0, _ => rfl
      | 1, _ => rfl
      | 2, _ => rfl
      | 3, _ => rfl)
    (fun k hk => by
      obtain rfl : k = 0 := by simpa using hk
      exact ⟨small_in64 (by decide), small_in64 (by decide), (by decide : (1 : Nat) ≤ maxLen)⟩)
    (fun k hk => by
      obtain rfl : k = 0 := by simpa using hk
      exact ExsAt.none _ _ _)
def awHd (g3 : Nat) : Nat → HdS
  | 0 => ⟨⟨some ⟨g3, 0, none⟩, 1⟩, ⟨none, 0⟩, ⟨none, 0⟩, ⟨none, 0⟩, ⟨none, 0⟩⟩
  | _ => ⟨⟨none, 0⟩, ⟨none, 0⟩, ⟨none, 0⟩, ⟨none, 0⟩, ⟨none, 0⟩⟩
theorem getD_take {α : Type} {l : List α} {n k : Nat} {z : α} (h : k < n) : (l.take n).getD k z = l.getD k z := by simp [List.getD_eq_getElem?_getD, List.getElem?_take_of_lt h]
theorem aw_body {g1 g2 g3 g4 : Nat} {W : World} (h : AwB g1 g2 g3 g4 W) (n : Nat) (hn : n ≤ 2) : StsAt W W.heap.size (some ⟨g4, 0, none⟩) ([awS1, awS2].take n) := by
  have hlen : ([awS1, awS2].take n).length = n := by rw [List.length_take]; simp; omega
  have hnth : ∀ k, k < n → nthS ([awS1, awS2].take n) k = nthS [awS1, awS2] k := fun k hk => by unfold nthS; rw [getD_take hk]
  have one : ∀ k, k < n → k = 0 ∨ k = 1 := fun k hk => by omega
  refine .mk (awHd g3) (fun _ _ => ⟨none, 0⟩) (by rw [hlen]; omega) ?_ ?_ ?_ ?_ ?_ ?_ ?_ ?_ ?_ ?_
  · refine RowsAt.whl h.body h.body.lt fun k hk j hj => ?_
    rw [hlen] at hk
    rw [hnth k hk]
    rcases one k hk with rfl | rfl
    · match j, hj with
      | 0, _ => rfl
      | 1, _ => rfl
      | 2, _ => rfl
      | 3, _ => rfl
      | 4, _ => rfl
      | 5, _ => rfl
      | 6, _ => rfl
      | 7, _ => rfl
      | 8, _ => rfl
      | 9, _ => rfl
      | 10, _ => rfl
      | 11, _ => rfl
      | 12, _ => rfl
      | 13, _ => rfl
    · match j, hj with
      | 0, _ => rfl
      | 1, _ => rfl
      | 2, _ => rfl
      | 3, _ => rfl
      | 4, _ => rfl
      | 5, _ => rfl
      | 6, _ => rfl
      | 7, _ => rfl
      | 8, _ => rfl
      | 9, _ => rfl
      | 10, _ => rfl
      | 11, _ => rfl
      | 12, _ => rfl
      | 13, _ => rfl
  all_goals (intro k hk; rw [hlen] at hk; rw [hnth k hk]; rcases one k hk with rfl | rfl)
  · exact ⟨small_in64 (by decide), small_in64 (by decide), (by decide : (0 : Nat) ≤ maxLen), ⟨small_in64 (by decide), small_in64 (by decide), (by decide : (0 : Nat) ≤ maxLen)⟩, zeroWf⟩
  · exact ⟨small_in64 (by decide), small_in64 (by decide), (by decide : (0 : Nat) ≤ maxLen), zeroWf, zeroWf⟩
  · exact aw_args h
  · exact ExsAt.none _ _ _
  · exact ExsAt.none _ _ _
  · exact ExsAt.none _ _ _
  · exact StsAt.none _ _ _
  · exact StsAt.none _ _ _
  · exact StsAt.none _ _ _
  · exact StsAt.none _ _ _
  · exact Nat.zero_le _
  · exact Nat.zero_le _
  · exact fun h0 => absurd h0 (by decide)
  · exact fun h0 => absurd h0 (by decide)
  · exact fun j hj => absurd hj (by intro h; cases h)
  · exact fun j hj => absurd hj (by intro h; cases h)
  · exact fun j hj => absurd hj (by intro h; cases h)
  · exact fun j hj => absurd hj (by intro h; cases h)
/-- The program lies there. -/
theorem aw_ok {g1 g2 g3 g4 : Nat} {W : World} (h : AwB g1 g2 g3 g4 W) (n c g : Nat) (hn : n ≤ 2) (hg : Whl W g 44 #[.string ⟨#[102]⟩, .slice (some ⟨g2, 0, none⟩) 1 1, .slice (some ⟨g4, 0, none⟩) n c]) :
    PrOk W W.heap.size (awD ([awS1, awS2].take n)) (some ⟨g1, 0, none⟩) (some ⟨g, 0, none⟩) := by
  have hlen : ([awS1, awS2].take n).length = n := by rw [List.length_take]; simp; omega
  refine ⟨by simp [awD], RowsAt.whl h.ints h.ints.lt fun k hk j hj => ?_, fun k hk => ?_, .mk (fun _ => ⟨⟨some ⟨g2, 0, none⟩, 1⟩, ⟨some ⟨g4, 0, none⟩, c⟩⟩) (by simp [awD]) (RowsAt.whl hg hg.lt fun k hk j hj => ?_) fun k hk => ?_⟩
  · obtain rfl : j = 0 := by omega
    have : k = 0 ∨ k = 1 := by have : k < 2 := hk; omega
    rcases this with rfl | rfl <;> rfl
  · have : k = 0 ∨ k = 1 := by have : k < 2 := hk; omega
    rcases this with rfl | rfl
    · exact small_in64 (n := -5) (by decide)
    · exact small_in64 (n := 0) (by decide)
  · obtain rfl : k = 0 := by have : k < 1 := hk; omega
    match j, hj with
    | 0, _ => rfl
    | 1, _ => rfl
    | 2, _ =>
      show some (Value.slice (some ⟨g4, 0, none⟩) n c) = some (.slice (some ⟨g4, 0, none⟩) ([awS1, awS2].take n).length c)
      rw [hlen]
  · obtain rfl : k = 0 := by have : k < 1 := hk; omega
    refine ⟨(by decide : (1 : Nat) ≤ maxLen), (by decide : (1 : Nat) * 32 ≤ 140737488351232), RowsAt.whl h.pars h.pars.lt fun k hk j hj => ?_, fun k hk => ?_, aw_body h n hn⟩
    · obtain rfl : k = 0 := by have : k < 1 := hk; omega
      match j, hj with
      | 0, _ => rfl
      | 1, _ => rfl
      | 2, _ => rfl
    · obtain rfl : k = 0 := by have : k < 1 := hk; omega
      exact ⟨(by decide : (1 : Nat) ≤ maxLen), small_in64 (n := 0) (by decide), small_in64 (n := 10) (by decide)⟩
theorem aw_str : ((⟨awT.toArray⟩ : ByteArray).toList == (⟨#[119, 105, 100, 101, 110, 32, 45, 53, 44, 32, 48, 59, 10, 102, 110, 32, 102, 40, 110, 32, 105, 110, 32, 48, 46, 46, 49, 48, 41, 32, 123, 10, 32, 32, 114, 101, 116, 117, 114, 110, 32, 45, 110, 59, 10, 125, 10]⟩ : ByteArray).toList) = true := by
  rw [ByteArray.toList_eq, ByteArray.toList_eq]; kernel_rfl
theorem aw_call1 {W : World} {a b : Option Addr} {wc fc : Nat} (h : PrOk W W.heap.size (awD [awS1]) a b) :
    Calls Tryz.prog 9 #[prV (awD [awS1]) a b wc fc, prV (awD [awS1]) a b wc fc] W fun e w' => e = .returned (.bool true) ∧ Below W.heap.size W w' := by
  have := sameCall (awD [awS1]) (awD [awS1]) a b a b wc fc wc fc _ _ (Nat.le_refl _) h h
  rwa [aw_same1] at this
theorem aw_call2 {W : World} {a b c d : Option Addr} {wc fc xc yc : Nat} (h : PrOk W W.heap.size (awD [awS1, awS2]) a b) (k : PrOk W W.heap.size (awD [awS1]) c d) :
    Calls Tryz.prog 9 #[prV (awD [awS1, awS2]) a b wc fc, prV (awD [awS1]) c d xc yc] W fun e w' => e = .returned (.bool false) ∧ Below W.heap.size W w' := by
  have := sameCall (awD [awS1, awS2]) (awD [awS1]) a b c d wc fc xc yc _ _ (Nat.le_refl _) h k
  rwa [aw_same2] at this
set_option maxHeartbeats 8000000 in
theorem awakeL (w : World) (ht : Pow10 w) : Calls Tryz.prog 4 #[] w fun e w' => e = .returned (.bool true) ∧ Below w.heap.size w w' := by
  have HT := Lib.hid ht
  clear ht
  go_enter Tryz.func4, Tryz.ntmps4
  go_upto_region 3 with fail
  have A0 : AwB (w.heap.size + 1) (w.heap.size + 1 + 1) (w.heap.size + 1 + 1 + 1) (w.heap.size + 1 + 1 + 1 + 1) (((((((w.alloc (.cells #[.int .i64 2, .int .i64 0, .string ⟨#[110]⟩, .slice none 0 0] 35)).alloc (.cells #[.int .i64 (-5), .int .i64 0] 2)).alloc (.cells #[.string ⟨#[110]⟩, .int .i64 0, .int .i64 10] 37)).alloc (.cells #[.int .i64 2, .int .i64 0, .string ⟨#[110]⟩, .slice none 0 0] 35)).alloc (.cells #[.int .i64 9, .string ⟨#[]⟩, .int .i64 0, .int .i64 5, .int .i64 0, .string ⟨#[]⟩, .slice (some ⟨w.heap.size + 1 + 1 + 1, 0, none⟩) 1 1, .int .i64 0, .int .i64 0, .string ⟨#[]⟩, .slice none 0 0, .slice none 0 0, .slice none 0 0, .slice none 0 0, .int .i64 1, .string ⟨#[]⟩, .int .i64 1, .int .i64 0, .int .i64 0, .string ⟨#[]⟩, .slice none 0 0, .int .i64 0, .int .i64 0, .string ⟨#[]⟩, .slice none 0 0, .slice none 0 0, .slice none 0 0, .slice none 0 0] 42)).alloc (.cells #[.string ⟨#[102]⟩, .slice (some ⟨w.heap.size + 1 + 1, 0, none⟩) 1 1, .slice (some ⟨w.heap.size + 1 + 1 + 1 + 1, 0, none⟩) 2 2] 44)).alloc (.cells #[.slice (some ⟨w.heap.size + 1, 0, none⟩) 2 2, .slice (some ⟨w.heap.size + 1 + 1 + 1 + 1 + 1, 0, none⟩) 1 1] 25)) := ⟨((((((Whl.newAt (w := (w.alloc (.cells #[.int .i64 2, .int .i64 0, .string ⟨#[110]⟩, .slice none 0 0] 35))) (b := w.heap.size + 1) (by simp) 2 #[.int .i64 (-5), .int .i64 0]).alloc _).alloc _).alloc _).alloc _).alloc _), (((((Whl.newAt (w := ((w.alloc (.cells #[.int .i64 2, .int .i64 0, .string ⟨#[110]⟩, .slice none 0 0] 35)).alloc (.cells #[.int .i64 (-5), .int .i64 0] 2))) (b := w.heap.size + 1 + 1) (by simp) 37 #[.string ⟨#[110]⟩, .int .i64 0, .int .i64 10]).alloc _).alloc _).alloc _).alloc _), ((((Whl.newAt (w := (((w.alloc (.cells #[.int .i64 2, .int .i64 0, .string ⟨#[110]⟩, .slice none 0 0] 35)).alloc (.cells #[.int .i64 (-5), .int .i64 0] 2)).alloc (.cells #[.string ⟨#[110]⟩, .int .i64 0, .int .i64 10] 37))) (b := w.heap.size + 1 + 1 + 1) (by simp) 35 #[.int .i64 2, .int .i64 0, .string ⟨#[110]⟩, .slice none 0 0]).alloc _).alloc _).alloc _), (((Whl.newAt (w := ((((w.alloc (.cells #[.int .i64 2, .int .i64 0, .string ⟨#[110]⟩, .slice none 0 0] 35)).alloc (.cells #[.int .i64 (-5), .int .i64 0] 2)).alloc (.cells #[.string ⟨#[110]⟩, .int .i64 0, .int .i64 10] 37)).alloc (.cells #[.int .i64 2, .int .i64 0, .string ⟨#[110]⟩, .slice none 0 0] 35))) (b := w.heap.size + 1 + 1 + 1 + 1) (by simp) 42 #[.int .i64 9, .string ⟨#[]⟩, .int .i64 0, .int .i64 5, .int .i64 0, .string ⟨#[]⟩, .slice (some ⟨w.heap.size + 1 + 1 + 1, 0, none⟩) 1 1, .int .i64 0, .int .i64 0, .string ⟨#[]⟩, .slice none 0 0, .slice none 0 0, .slice none 0 0, .slice none 0 0, .int .i64 1, .string ⟨#[]⟩, .int .i64 1, .int .i64 0, .int .i64 0, .string ⟨#[]⟩, .slice none 0 0, .int .i64 0, .int .i64 0, .string ⟨#[]⟩, .slice none 0 0, .slice none 0 0, .slice none 0 0, .slice none 0 0]).alloc _).alloc _)⟩
  have F0 : Whl (((((((w.alloc (.cells #[.int .i64 2, .int .i64 0, .string ⟨#[110]⟩, .slice none 0 0] 35)).alloc (.cells #[.int .i64 (-5), .int .i64 0] 2)).alloc (.cells #[.string ⟨#[110]⟩, .int .i64 0, .int .i64 10] 37)).alloc (.cells #[.int .i64 2, .int .i64 0, .string ⟨#[110]⟩, .slice none 0 0] 35)).alloc (.cells #[.int .i64 9, .string ⟨#[]⟩, .int .i64 0, .int .i64 5, .int .i64 0, .string ⟨#[]⟩, .slice (some ⟨w.heap.size + 1 + 1 + 1, 0, none⟩) 1 1, .int .i64 0, .int .i64 0, .string ⟨#[]⟩, .slice none 0 0, .slice none 0 0, .slice none 0 0, .slice none 0 0, .int .i64 1, .string ⟨#[]⟩, .int .i64 1, .int .i64 0, .int .i64 0, .string ⟨#[]⟩, .slice none 0 0, .int .i64 0, .int .i64 0, .string ⟨#[]⟩, .slice none 0 0, .slice none 0 0, .slice none 0 0, .slice none 0 0] 42)).alloc (.cells #[.string ⟨#[102]⟩, .slice (some ⟨w.heap.size + 1 + 1, 0, none⟩) 1 1, .slice (some ⟨w.heap.size + 1 + 1 + 1 + 1, 0, none⟩) 2 2] 44)).alloc (.cells #[.slice (some ⟨w.heap.size + 1, 0, none⟩) 2 2, .slice (some ⟨w.heap.size + 1 + 1 + 1 + 1 + 1, 0, none⟩) 1 1] 25)) (w.heap.size + 1 + 1 + 1 + 1 + 1) 44 #[.string ⟨#[102]⟩, .slice (some ⟨w.heap.size + 1 + 1, 0, none⟩) 1 1, .slice (some ⟨w.heap.size + 1 + 1 + 1 + 1, 0, none⟩) 2 2] := ((Whl.newAt (w := (((((w.alloc (.cells #[.int .i64 2, .int .i64 0, .string ⟨#[110]⟩, .slice none 0 0] 35)).alloc (.cells #[.int .i64 (-5), .int .i64 0] 2)).alloc (.cells #[.string ⟨#[110]⟩, .int .i64 0, .int .i64 10] 37)).alloc (.cells #[.int .i64 2, .int .i64 0, .string ⟨#[110]⟩, .slice none 0 0] 35)).alloc (.cells #[.int .i64 9, .string ⟨#[]⟩, .int .i64 0, .int .i64 5, .int .i64 0, .string ⟨#[]⟩, .slice (some ⟨w.heap.size + 1 + 1 + 1, 0, none⟩) 1 1, .int .i64 0, .int .i64 0, .string ⟨#[]⟩, .slice none 0 0, .slice none 0 0, .slice none 0 0, .slice none 0 0, .int .i64 1, .string ⟨#[]⟩, .int .i64 1, .int .i64 0, .int .i64 0, .string ⟨#[]⟩, .slice none 0 0, .int .i64 0, .int .i64 0, .string ⟨#[]⟩, .slice none 0 0, .slice none 0 0, .slice none 0 0, .slice none 0 0] 42))) (b := w.heap.size + 1 + 1 + 1 + 1 + 1) (by simp) 44 #[.string ⟨#[102]⟩, .slice (some ⟨w.heap.size + 1 + 1, 0, none⟩) 1 1, .slice (some ⟨w.heap.size + 1 + 1 + 1 + 1, 0, none⟩) 2 2]).alloc _)
  have P0 : Whl (((((((w.alloc (.cells #[.int .i64 2, .int .i64 0, .string ⟨#[110]⟩, .slice none 0 0] 35)).alloc (.cells #[.int .i64 (-5), .int .i64 0] 2)).alloc (.cells #[.string ⟨#[110]⟩, .int .i64 0, .int .i64 10] 37)).alloc (.cells #[.int .i64 2, .int .i64 0, .string ⟨#[110]⟩, .slice none 0 0] 35)).alloc (.cells #[.int .i64 9, .string ⟨#[]⟩, .int .i64 0, .int .i64 5, .int .i64 0, .string ⟨#[]⟩, .slice (some ⟨w.heap.size + 1 + 1 + 1, 0, none⟩) 1 1, .int .i64 0, .int .i64 0, .string ⟨#[]⟩, .slice none 0 0, .slice none 0 0, .slice none 0 0, .slice none 0 0, .int .i64 1, .string ⟨#[]⟩, .int .i64 1, .int .i64 0, .int .i64 0, .string ⟨#[]⟩, .slice none 0 0, .int .i64 0, .int .i64 0, .string ⟨#[]⟩, .slice none 0 0, .slice none 0 0, .slice none 0 0, .slice none 0 0] 42)).alloc (.cells #[.string ⟨#[102]⟩, .slice (some ⟨w.heap.size + 1 + 1, 0, none⟩) 1 1, .slice (some ⟨w.heap.size + 1 + 1 + 1 + 1, 0, none⟩) 2 2] 44)).alloc (.cells #[.slice (some ⟨w.heap.size + 1, 0, none⟩) 2 2, .slice (some ⟨w.heap.size + 1 + 1 + 1 + 1 + 1, 0, none⟩) 1 1] 25)) (w.heap.size + 1 + 1 + 1 + 1 + 1 + 1) 25 #[.slice (some ⟨w.heap.size + 1, 0, none⟩) 2 2, .slice (some ⟨w.heap.size + 1 + 1 + 1 + 1 + 1, 0, none⟩) 1 1] := (Whl.newAt (w := ((((((w.alloc (.cells #[.int .i64 2, .int .i64 0, .string ⟨#[110]⟩, .slice none 0 0] 35)).alloc (.cells #[.int .i64 (-5), .int .i64 0] 2)).alloc (.cells #[.string ⟨#[110]⟩, .int .i64 0, .int .i64 10] 37)).alloc (.cells #[.int .i64 2, .int .i64 0, .string ⟨#[110]⟩, .slice none 0 0] 35)).alloc (.cells #[.int .i64 9, .string ⟨#[]⟩, .int .i64 0, .int .i64 5, .int .i64 0, .string ⟨#[]⟩, .slice (some ⟨w.heap.size + 1 + 1 + 1, 0, none⟩) 1 1, .int .i64 0, .int .i64 0, .string ⟨#[]⟩, .slice none 0 0, .slice none 0 0, .slice none 0 0, .slice none 0 0, .int .i64 1, .string ⟨#[]⟩, .int .i64 1, .int .i64 0, .int .i64 0, .string ⟨#[]⟩, .slice none 0 0, .int .i64 0, .int .i64 0, .string ⟨#[]⟩, .slice none 0 0, .slice none 0 0, .slice none 0 0, .slice none 0 0] 42)).alloc (.cells #[.string ⟨#[102]⟩, .slice (some ⟨w.heap.size + 1 + 1, 0, none⟩) 1 1, .slice (some ⟨w.heap.size + 1 + 1 + 1 + 1, 0, none⟩) 2 2] 44))) (b := w.heap.size + 1 + 1 + 1 + 1 + 1 + 1) (by simp) 25 #[.slice (some ⟨w.heap.size + 1, 0, none⟩) 2 2, .slice (some ⟨w.heap.size + 1 + 1 + 1 + 1 + 1, 0, none⟩) 1 1])
  have B0 : Below w.heap.size w (((((((w.alloc (.cells #[.int .i64 2, .int .i64 0, .string ⟨#[110]⟩, .slice none 0 0] 35)).alloc (.cells #[.int .i64 (-5), .int .i64 0] 2)).alloc (.cells #[.string ⟨#[110]⟩, .int .i64 0, .int .i64 10] 37)).alloc (.cells #[.int .i64 2, .int .i64 0, .string ⟨#[110]⟩, .slice none 0 0] 35)).alloc (.cells #[.int .i64 9, .string ⟨#[]⟩, .int .i64 0, .int .i64 5, .int .i64 0, .string ⟨#[]⟩, .slice (some ⟨w.heap.size + 1 + 1 + 1, 0, none⟩) 1 1, .int .i64 0, .int .i64 0, .string ⟨#[]⟩, .slice none 0 0, .slice none 0 0, .slice none 0 0, .slice none 0 0, .int .i64 1, .string ⟨#[]⟩, .int .i64 1, .int .i64 0, .int .i64 0, .string ⟨#[]⟩, .slice none 0 0, .int .i64 0, .int .i64 0, .string ⟨#[]⟩, .slice none 0 0, .slice none 0 0, .slice none 0 0, .slice none 0 0] 42)).alloc (.cells #[.string ⟨#[102]⟩, .slice (some ⟨w.heap.size + 1 + 1, 0, none⟩) 1 1, .slice (some ⟨w.heap.size + 1 + 1 + 1 + 1, 0, none⟩) 2 2] 44)).alloc (.cells #[.slice (some ⟨w.heap.size + 1, 0, none⟩) 2 2, .slice (some ⟨w.heap.size + 1 + 1 + 1 + 1 + 1, 0, none⟩) 1 1] 25)) := below_alloc (below_alloc (below_alloc (below_alloc (below_alloc (below_alloc (below_alloc (Below.refl _ _) _) _) _) _) _) _) _
  generalize (((((((w.alloc (.cells #[.int .i64 2, .int .i64 0, .string ⟨#[110]⟩, .slice none 0 0] 35)).alloc (.cells #[.int .i64 (-5), .int .i64 0] 2)).alloc (.cells #[.string ⟨#[110]⟩, .int .i64 0, .int .i64 10] 37)).alloc (.cells #[.int .i64 2, .int .i64 0, .string ⟨#[110]⟩, .slice none 0 0] 35)).alloc (.cells #[.int .i64 9, .string ⟨#[]⟩, .int .i64 0, .int .i64 5, .int .i64 0, .string ⟨#[]⟩, .slice (some ⟨w.heap.size + 1 + 1 + 1, 0, none⟩) 1 1, .int .i64 0, .int .i64 0, .string ⟨#[]⟩, .slice none 0 0, .slice none 0 0, .slice none 0 0, .slice none 0 0, .int .i64 1, .string ⟨#[]⟩, .int .i64 1, .int .i64 0, .int .i64 0, .string ⟨#[]⟩, .slice none 0 0, .int .i64 0, .int .i64 0, .string ⟨#[]⟩, .slice none 0 0, .slice none 0 0, .slice none 0 0, .slice none 0 0] 42)).alloc (.cells #[.string ⟨#[102]⟩, .slice (some ⟨w.heap.size + 1 + 1, 0, none⟩) 1 1, .slice (some ⟨w.heap.size + 1 + 1 + 1 + 1, 0, none⟩) 2 2] 44)).alloc (.cells #[.slice (some ⟨w.heap.size + 1, 0, none⟩) 2 2, .slice (some ⟨w.heap.size + 1 + 1 + 1 + 1 + 1, 0, none⟩) 1 1] 25)) = W7 at A0 F0 P0 B0 ⊢
  generalize w.heap.size + 1 + 1 + 1 + 1 + 1 + 1 = g6 at A0 F0 P0 ⊢
  generalize w.heap.size + 1 + 1 + 1 + 1 + 1 = g5 at A0 F0 P0 ⊢
  generalize w.heap.size + 1 + 1 + 1 + 1 = g4 at A0 F0 P0 ⊢
  generalize w.heap.size + 1 + 1 + 1 = g3 at A0 F0 P0 ⊢
  generalize w.heap.size + 1 + 1 = g2 at A0 F0 P0 ⊢
  generalize w.heap.size + 1 = g1 at A0 F0 P0 ⊢
  have HC := checkP (awD [awS1, awS2]) (some ⟨g1, 0, none⟩) (some ⟨g5, 0, none⟩) 2 1 W7.heap.size W7 (Nat.le_refl _) (aw_ok A0 2 2 g5 (by decide) F0)
  rw [aw_check] at HC
  obtain ⟨p0, p1⟩ := P0.c2
  have lp := P0.lt
  have HA0 := Lib.hid A0
  clear A0
  go_upto_region 6 with (go_at_call 7; go_must (refine HC.mono ?_; rintro e w1 ⟨rfl, hb1⟩; have A1 := Lib.hid (HA0.out.go hb1); have F1 := F0.below' hb1; have P1 := P0.below' hb1; have B1 := below_step B0 hb1; obtain ⟨q0, q1⟩ := P1.c2; obtain ⟨r0, r1, r2⟩ := F1.c3; have lq := P1.lt; have lr := F1.lt))
  go_region
  go_upto_region 7 with fail
  have l0 : w1.heap.size < w1.heap.size + 1 := Nat.lt_succ_self _
  have A8 := (((A1.out.alloc (.cells #[.int .i64 5, .int .i64 0, .int .i64 2] 29)).alloc (.cells #[.slice (some ⟨g1, 0, none⟩) 2 2, .slice (some ⟨w1.heap.size + 1 + 1, 0, none⟩) 1 1] 25)).alloc (.cells #[.string ⟨#[102]⟩, .slice (some ⟨g2, 0, none⟩) 1 1, .slice (some ⟨g4, 0, none⟩) 1 2] 44)).drew
  have R8 : Whl (((w1.alloc (.cells #[.int .i64 5, .int .i64 0, .int .i64 2] 29)).alloc (.cells #[.slice (some ⟨g1, 0, none⟩) 2 2, .slice (some ⟨w1.heap.size + 1 + 1, 0, none⟩) 1 1] 25)).alloc (.cells #[.string ⟨#[102]⟩, .slice (some ⟨g2, 0, none⟩) 1 1, .slice (some ⟨g4, 0, none⟩) 1 2] 44)).drew w1.heap.size 29 #[.int .i64 5, .int .i64 0, .int .i64 2] := (((Whl.new w1 29 #[.int .i64 5, .int .i64 0, .int .i64 2]).alloc _).alloc _).drew
  have Q8 : Whl (((w1.alloc (.cells #[.int .i64 5, .int .i64 0, .int .i64 2] 29)).alloc (.cells #[.slice (some ⟨g1, 0, none⟩) 2 2, .slice (some ⟨w1.heap.size + 1 + 1, 0, none⟩) 1 1] 25)).alloc (.cells #[.string ⟨#[102]⟩, .slice (some ⟨g2, 0, none⟩) 1 1, .slice (some ⟨g4, 0, none⟩) 1 2] 44)).drew (w1.heap.size + 1) 25 #[.slice (some ⟨g1, 0, none⟩) 2 2, .slice (some ⟨w1.heap.size + 1 + 1, 0, none⟩) 1 1] := ((Whl.newAt (w := (w1.alloc (.cells #[.int .i64 5, .int .i64 0, .int .i64 2] 29))) (by simp) 25 #[.slice (some ⟨g1, 0, none⟩) 2 2, .slice (some ⟨w1.heap.size + 1 + 1, 0, none⟩) 1 1]).alloc _).drew
  have F8 : Whl (((w1.alloc (.cells #[.int .i64 5, .int .i64 0, .int .i64 2] 29)).alloc (.cells #[.slice (some ⟨g1, 0, none⟩) 2 2, .slice (some ⟨w1.heap.size + 1 + 1, 0, none⟩) 1 1] 25)).alloc (.cells #[.string ⟨#[102]⟩, .slice (some ⟨g2, 0, none⟩) 1 1, .slice (some ⟨g4, 0, none⟩) 1 2] 44)).drew (w1.heap.size + 1 + 1) 44 #[.string ⟨#[102]⟩, .slice (some ⟨g2, 0, none⟩) 1 1, .slice (some ⟨g4, 0, none⟩) 1 2] := (Whl.newAt (w := ((w1.alloc (.cells #[.int .i64 5, .int .i64 0, .int .i64 2] 29)).alloc (.cells #[.slice (some ⟨g1, 0, none⟩) 2 2, .slice (some ⟨w1.heap.size + 1 + 1, 0, none⟩) 1 1] 25))) (by simp) 44 #[.string ⟨#[102]⟩, .slice (some ⟨g2, 0, none⟩) 1 1, .slice (some ⟨g4, 0, none⟩) 1 2]).drew
  have G8 : Whl (((w1.alloc (.cells #[.int .i64 5, .int .i64 0, .int .i64 2] 29)).alloc (.cells #[.slice (some ⟨g1, 0, none⟩) 2 2, .slice (some ⟨w1.heap.size + 1 + 1, 0, none⟩) 1 1] 25)).alloc (.cells #[.string ⟨#[102]⟩, .slice (some ⟨g2, 0, none⟩) 1 1, .slice (some ⟨g4, 0, none⟩) 1 2] 44)).drew g5 44 #[.string ⟨#[102]⟩, .slice (some ⟨g2, 0, none⟩) 1 1, .slice (some ⟨g4, 0, none⟩) 2 2] := (((F1.alloc _).alloc _).alloc _).drew
  have P8 : Whl (((w1.alloc (.cells #[.int .i64 5, .int .i64 0, .int .i64 2] 29)).alloc (.cells #[.slice (some ⟨g1, 0, none⟩) 2 2, .slice (some ⟨w1.heap.size + 1 + 1, 0, none⟩) 1 1] 25)).alloc (.cells #[.string ⟨#[102]⟩, .slice (some ⟨g2, 0, none⟩) 1 1, .slice (some ⟨g4, 0, none⟩) 1 2] 44)).drew g6 25 #[.slice (some ⟨g1, 0, none⟩) 2 2, .slice (some ⟨g5, 0, none⟩) 1 1] := (((P1.alloc _).alloc _).alloc _).drew
  have B8 : Below w.heap.size w (((w1.alloc (.cells #[.int .i64 5, .int .i64 0, .int .i64 2] 29)).alloc (.cells #[.slice (some ⟨g1, 0, none⟩) 2 2, .slice (some ⟨w1.heap.size + 1 + 1, 0, none⟩) 1 1] 25)).alloc (.cells #[.string ⟨#[102]⟩, .slice (some ⟨g2, 0, none⟩) 1 1, .slice (some ⟨g4, 0, none⟩) 1 2] 44)).drew := (below_alloc (below_alloc (below_alloc B1 _) _) _).drew
  clear q0 q1 r0 r1 r2 lq lr l0 p0 p1 lp hb1 A1 F1 P1 B1 F0 P0 HA0 HC
  generalize (((w1.alloc (.cells #[.int .i64 5, .int .i64 0, .int .i64 2] 29)).alloc (.cells #[.slice (some ⟨g1, 0, none⟩) 2 2, .slice (some ⟨w1.heap.size + 1 + 1, 0, none⟩) 1 1] 25)).alloc (.cells #[.string ⟨#[102]⟩, .slice (some ⟨g2, 0, none⟩) 1 1, .slice (some ⟨g4, 0, none⟩) 1 2] 44)).drew = V at A8 R8 Q8 F8 G8 P8 B8 ⊢
  generalize w1.heap.size + 1 + 1 = h2 at Q8 F8 ⊢
  generalize w1.heap.size + 1 = h1 at Q8 ⊢
  generalize w1.heap.size = h0 at R8 ⊢
  have HQ8 := aw_ok A8 1 2 h2 (by decide) F8
  have HP8 := aw_ok A8 2 2 g5 (by decide) G8
  have HC := printP (awD [awS1]) (some ⟨g1, 0, none⟩) (some ⟨h2, 0, none⟩) 2 1 V.heap.size V (Nat.le_refl _) HQ8 (HT.out.step B8)
  rw [aw_print] at HC
  have HQ := Lib.hid HQ8
  have HP := Lib.hid HP8
  obtain ⟨p0, p1⟩ := Q8.c2
  have lp := Q8.lt
  clear HQ8 HP8 A8
  go_upto_region 8 with (go_at_call 5; go_must (refine HC.mono ?_; rintro e w2 ⟨rfl, hb2⟩; have Q2 := (Q8.below' hb2).alloc (.cells #[.int .i64 0, .int .i64 0, .int .i64 0] 29); have P2 := (P8.below' hb2).alloc (.cells #[.int .i64 0, .int .i64 0, .int .i64 0] 29); have R2 := (R8.below' hb2).alloc (.cells #[.int .i64 0, .int .i64 0, .int .i64 0] 29); have B2 := below_alloc (below_step B8 hb2) (.cells #[.int .i64 0, .int .i64 0, .int .i64 0] 29); have HQ2 := Lib.hid (HQ.out.step (below_alloc hb2 (.cells #[.int .i64 0, .int .i64 0, .int .i64 0] 29))); have HP2 := Lib.hid (HP.out.step (below_alloc hb2 (.cells #[.int .i64 0, .int .i64 0, .int .i64 0] 29)))))
  have HN := nodesP (awD [awS1]) (some ⟨g1, 0, none⟩) (some ⟨h2, 0, none⟩) 2 1 _ _ (Nat.le_refl _) HQ2.out
  rw [aw_nodes] at HN
  obtain ⟨r0, r1, r2⟩ := R2.c3
  obtain ⟨q0, q1⟩ := Q2.c2
  have lr := R2.lt
  have lq := Q2.lt
  have hst := aw_str
  have l2 := hb2.size
  clear HC p0 p1 lp
  go_wp2_with (first
    | (go_at_call 8; go_must (refine HN.mono ?_; rintro e w3 ⟨rfl, hb3⟩; have Q3 := Q2.below' hb3; have P3 := P2.below' hb3; have B3 := below_step B2 hb3; have HQ3 := Lib.hid (HQ2.out.step hb3); have HP3 := Lib.hid (HP2.out.step hb3); obtain ⟨s0, s1⟩ := Q3.c2; have tk3 := Lib.hid trivial))
    | (go_at_call 9; have u3 := tk3; clear tk3; go_must (refine (aw_call1 HQ3.out).mono ?_; rintro e w4 ⟨rfl, hb4⟩; have Q4 := Q3.below' hb4; have P4 := P3.below' hb4; have B4 := below_step B3 hb4; have HQ4 := Lib.hid (HQ3.out.step hb4); have HP4 := Lib.hid (HP3.out.step hb4); obtain ⟨t0, t1⟩ := Q4.c2; obtain ⟨v0, v1⟩ := P4.c2; have tk4 := Lib.hid trivial))
    | (go_at_call 9; have u4 := tk4; clear tk4; go_must (refine (aw_call2 HP4.out HQ4.out).mono ?_; rintro e w5 ⟨rfl, hb5⟩; have B5 := below_step B4 hb5)))
  go_ret
  exact ⟨rfl, B5⟩
end Go.Proofs.YtdddppmfeoebgaaGreatDoor
