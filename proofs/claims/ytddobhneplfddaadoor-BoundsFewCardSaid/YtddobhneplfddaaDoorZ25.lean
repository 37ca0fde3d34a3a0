/-
  Layer 16 (bounds): RunC, LayR, StartP, VisA, VisC, VisB, VisD, RunE, RunD, RunF.
-/
import Derived.Test.YtddobhneplfddaaDoorProg
import Derived.Test.YtddobhneplfddaaDoorRows
import Derived.Test.YtddobhneplfddaaDoorZ0
import Derived.Test.YtddobhneplfddaaDoorZ1
import Derived.Test.YtddobhneplfddaaDoorZ2
import Derived.Test.YtddobhneplfddaaDoorZ3
import Derived.Test.YtddobhneplfddaaDoorZ4
import Derived.Test.YtddobhneplfddaaDoorZ5
import Derived.Test.YtddobhneplfddaaDoorZ6
import Derived.Test.YtddobhneplfddaaDoorZ7
import Derived.Test.YtddobhneplfddaaDoorZ8
import Derived.Test.YtddobhneplfddaaDoorZ9
import Derived.Test.YtddobhneplfddaaDoorZ10
import Derived.Test.YtddobhneplfddaaDoorZ11
import Derived.Test.YtddobhneplfddaaDoorZ12
import Derived.Test.YtddobhneplfddaaDoorZ13
import Derived.Test.YtddobhneplfddaaDoorZ14
import Derived.Test.YtddobhneplfddaaDoorZ15
import Derived.Test.YtddobhneplfddaaDoorZ16
import Derived.Test.YtddobhneplfddaaDoorZ17
import Derived.Test.YtddobhneplfddaaDoorZ18
import Derived.Test.YtddobhneplfddaaDoorZ19
import Derived.Test.YtddobhneplfddaaDoorZ20
import Derived.Test.YtddobhneplfddaaDoorZ21
import Derived.Test.YtddobhneplfddaaDoorZ22
import Derived.Test.YtddobhneplfddaaDoorZ23
import Derived.Test.YtddobhneplfddaaDoorZ24
import Derived.BigFrameIn
import Derived.BigQuiet
import Derived.BigRegion
import Derived.Carry
import Derived.ChangeMaps5
import Derived.Deep.AppendLies
import Derived.Deep.CutBlock
import Derived.Deep.DeepCutAuto
import Derived.Deep.DeepHandedRow
import Derived.Deep.DrawnRows
import Derived.Deep.Fields
import Derived.Deep.Light
import Derived.Deep.QuietTactic
import Derived.Deep.RegionHeld3
import Derived.Deep.RegionLaw
import Derived.Deep.SlicePairs
import Derived.Deep.Slices
import Derived.IntWalk
import Derived.JoinedCond
import Derived.Laws.AppendOwnNone
import Derived.Laws.Rows
import Derived.Laws.StructEq
import Derived.Lib.Hide
import Derived.Lib.SmallJoins
import Derived.LoopIn
import Derived.LoopNIn
import Derived.LoopTactic
import Derived.Maps.AppendAt
import Derived.OpenShut
import Derived.OpenVars
import Derived.Outline
import Derived.OwnWalk
import Derived.OwnWalkIn
import Derived.ProofKit
import Derived.RangeFuncBound
import Derived.RangeFuncCalls
import Derived.RangeFuncLeaves
import Derived.RangeFuncNested
import Derived.Shelf.Abstract
import Derived.Shelf.Bits.Mul64
import Derived.Shelf.RegionOpen
import Derived.SizedLaws
import Derived.TacticsInMore
import Derived.WalkKit
import Derived.WalkLawsBesides
import Derived.WalkMore
import Derived.WalkSpells
namespace Go.Proofs.YtddobhneplfddaaDoor
set_option maxRecDepth 100000
open Go.RowKit
set_option linter.unusedSimpArgs false
set_option linter.unusedVariables false
theorem own_room {w : World} {base sz : Nat} {e : TypeId} {A : Option Addr} {m c : Nat} {xs : List Value} (h : w.ownsRow base e sz (.slice A m c) m xs) : m ≤ c := by
  rcases h.2 with ⟨h1, h2⟩ | ⟨g, cap, cur, h1, _, _, h2, _⟩
  · omega
  · injection h1 with _ _ e3; omega
theorem own_max {w : World} {base sz : Nat} {e : TypeId} {A : Option Addr} {m c : Nat} {xs : List Value} (h : w.ownsRow base e sz (.slice A m c) m xs) : c ≤ maxLen := by
  rcases h.2 with ⟨h1, h2⟩ | ⟨g, cap, cur, h1, _, _, _, h2, _⟩
  · injection h1 with _ _ e3; omega
  · injection h1 with _ _ e3; omega
theorem own_none {w : World} {base sz : Nat} {e : TypeId} {A : Option Addr} {m c : Nat} {xs : List Value} (h : w.ownsRow base e sz (.slice A m c) m xs) : A = none → m = 0 := fun e0 => by
  rcases h.2 with ⟨h1, h2⟩ | ⟨g, cap, cur, h1, _⟩
  · exact h2
  · injection h1 with e1 _ _; rw [e0] at e1; cases e1
set_option maxHeartbeats 4000000 in
theorem region14 {n R b1 bx bp fb c : Nat} {A : Option Addr} {l : List Sp} {cs : Array Value} {w : World} {Q : Exit → Act → World → Prop} {x0 x1 x2 x3 x4 x5 x6 x8 x10 x11 x12 x13 x14 x15 x16 x17 x18 x19 x20 x21 x22 x23 x24 x25 x26 x27 x28 x29 x30 x31 x32 x33 x34 x35 x36 x37 x38 x39 x40 x41 x42 x43 x44 x45 x46 x47 x48 x49 x50 x51 x52 x53 x54 x55 x56 x57 x58 x59 x60 x61 x62 x63 x64 x65 x66 x67 x68 x69 x70 x71 x72 x73 x74 x75 x76 x77 x78 x79 x80 x81 x82 x83 x84 x85 x86 x87 x88 x89 x90 x91 x92 x93 x94 x95 x96 x97 x98 x99 x100 x101 x102 x103 x104 x105 x106 x107 x108 x109 x110 x111 x112 x113 x114 x115 x116 x117 x118 x119 x120 x121 x122 x123 x124 x125 x126 x127 x128 x129 x130 x131 x132 x133 x134 x135 x136 x137 x138 x139 x140 x141 x142 : Value}
    (hQp : ∀ ch a a2 w, Q (.panic ch) a w → Q (.panic ch) a2 w) (hn : 0 < n) (hn2 : n ≤ 1024) (hR : 0 < R) (hR6 : R ≤ 64) (hlR : l.length ≤ R) (hl6 : l.length ≤ 64) (hnil : A = none → c = 0 ∧ l = []) (hr : RowsAt w w.heap.size A l.length 2 fun k => spV (nthS l k))
    (cP : w.cell? ⟨bp, 0, none⟩ = some (.pointer (some ⟨bx, 0, none⟩))) (cX : w.cell? ⟨bx, 0, none⟩ = some (.slice (some ⟨b1, 0, none⟩) n n)) (cF1 : w.cell? ⟨fb, 1, none⟩ = some (.slice A l.length c)) (cF2 : w.cell? ⟨fb, 2, none⟩ = some (.int .i64 (R : Int)))
    (lP : bp < w.heap.size) (lX : bx < w.heap.size) (lF : fb < w.heap.size) (nP : bp ≠ b1) (nX : bx ≠ b1) (nF : fb ≠ b1) (f1 : Whl w b1 26 cs) (hc0 : cs[0]? = some (.slice none 0 0))
    (hK : ∀ g cp W u68 u69 u70 u71 u72 u73 u74 u75 u76 u77 u78 u79 u80 u81 u82 u83 u84, w.heap.size ≤ g → R ≤ cp → cp ≤ maxLen → RowE W g cp (l ++ List.replicate (R - l.length) ⟨0, 0⟩) → Below w.heap.size w W → Q .normal { tmps := #[x0, x1, x2, x3, x4, x5, x6, .pointer (some ⟨fb, 0, none⟩), x8, .pointer (some ⟨bp, 0, none⟩), x10, x11, x12, x13, x14, x15, x16, x17, x18, x19, x20, x21, x22, x23, x24, x25, x26, x27, x28, x29, x30, x31, x32, x33, x34, x35, x36, x37, x38, x39, x40, x41, x42, x43, x44, x45, x46, x47, x48, x49, x50, x51, x52, x53, x54, x55, x56, x57, x58, x59, x60, x61, x62, x63, x64, x65, x66, x67, u68, u69, u70, u71, u72, u73, u74, u75, u76, u77, u78, u79, u80, u81, u82, u83, u84, x85, x86, x87, x88, x89, x90, x91, x92, x93, x94, x95, x96, x97, x98, x99, x100, x101, x102, x103, x104, x105, x106, x107, x108, x109, x110, x111, x112, x113, x114, x115, x116, x117, x118, x119, x120, x121, x122, x123, x124, x125, x126, x127, x128, x129, x130, x131, x132, x133, x134, x135, x136, x137, x138, x139, x140, x141, x142], defers := [] } (W.setCell ⟨b1, 0, none⟩ (.slice (some ⟨g, 0, none⟩) R cp))) :
    ∃ c, findR 14 (bodyOf Tryd.f15) = some c ∧ Code.wp Tryd.prog c Q { tmps := #[x0, x1, x2, x3, x4, x5, x6, .pointer (some ⟨fb, 0, none⟩), x8, .pointer (some ⟨bp, 0, none⟩), x10, x11, x12, x13, x14, x15, x16, x17, x18, x19, x20, x21, x22, x23, x24, x25, x26, x27, x28, x29, x30, x31, x32, x33, x34, x35, x36, x37, x38, x39, x40, x41, x42, x43, x44, x45, x46, x47, x48, x49, x50, x51, x52, x53, x54, x55, x56, x57, x58, x59, x60, x61, x62, x63, x64, x65, x66, x67, x68, x69, x70, x71, x72, x73, x74, x75, x76, x77, x78, x79, x80, x81, x82, x83, x84, x85, x86, x87, x88, x89, x90, x91, x92, x93, x94, x95, x96, x97, x98, x99, x100, x101, x102, x103, x104, x105, x106, x107, x108, x109, x110, x111, x112, x113, x114, x115, x116, x117, x118, x119, x120, x121, x122, x123, x124, x125, x126, x127, x128, x129, x130, x131, x132, x133, x134, x135, x136, x137, x138, x139, x140, x141, x142], defers := [] } w := by
  refine ⟨_, rfl, ?_⟩
  have HR := Lib.hid hr
  have HKK := Lib.hid hK
  clear hr hK
  have hw1 : IntKind.i64.wrap ((R : Int) - (l.length : Int)) = ((R - l.length : Nat) : Int) := by rw [show ((R : Int) - (l.length : Int)) = ((R - l.length : Nat) : Int) by omega]; exact IntWalk.i64_in _ (by omega)
  have hS4 : ∀ w' : World, (w'.cell? ⟨bp, 0, none⟩ = w.cell? ⟨bp, 0, none⟩) → (w'.cell? ⟨bx, 0, none⟩ = w.cell? ⟨bx, 0, none⟩) → (w'.cell? ⟨fb, 1, none⟩ = w.cell? ⟨fb, 1, none⟩) → (w'.cell? ⟨fb, 2, none⟩ = w.cell? ⟨fb, 2, none⟩) → w'.cell? ⟨bp, 0, none⟩ = some (.pointer (some ⟨bx, 0, none⟩)) ∧ w'.cell? ⟨bx, 0, none⟩ = some (.slice (some ⟨b1, 0, none⟩) n n) ∧ w'.cell? ⟨fb, 1, none⟩ = some (.slice A l.length c) ∧ w'.cell? ⟨fb, 2, none⟩ = some (.int .i64 (R : Int)) := fun w' e1 e2 e3 e4 => ⟨e1.trans cP, e2.trans cX, e3.trans cF1, e4.trans cF2⟩
  have HS : ∀ w' : World, Below w.heap.size w w' → w'.cell? ⟨bp, 0, none⟩ = some (.pointer (some ⟨bx, 0, none⟩)) ∧ w'.cell? ⟨bx, 0, none⟩ = some (.slice (some ⟨b1, 0, none⟩) n n) ∧ w'.cell? ⟨fb, 1, none⟩ = some (.slice A l.length c) ∧ w'.cell? ⟨fb, 2, none⟩ = some (.int .i64 (R : Int)) := fun w' hb => hS4 w' (hb.cell (p := ⟨bp, 0, none⟩) lP) (hb.cell (p := ⟨bx, 0, none⟩) lX) (hb.cell (p := ⟨fb, 1, none⟩) lF) (hb.cell (p := ⟨fb, 2, none⟩) lF)
  have HS2 : ∀ w' : World, Below w.heap.size w w' → ∀ g cp : Nat, (w'.setCell ⟨b1, 0, none⟩ (.slice (some ⟨g, 0, none⟩) R cp)).cell? ⟨bp, 0, none⟩ = some (.pointer (some ⟨bx, 0, none⟩)) ∧ (w'.setCell ⟨b1, 0, none⟩ (.slice (some ⟨g, 0, none⟩) R cp)).cell? ⟨bx, 0, none⟩ = some (.slice (some ⟨b1, 0, none⟩) n n) ∧ (w'.setCell ⟨b1, 0, none⟩ (.slice (some ⟨g, 0, none⟩) R cp)).cell? ⟨fb, 1, none⟩ = some (.slice A l.length c) ∧ (w'.setCell ⟨b1, 0, none⟩ (.slice (some ⟨g, 0, none⟩) R cp)).cell? ⟨fb, 2, none⟩ = some (.int .i64 (R : Int)) := fun w' hb g cp => by
    obtain ⟨a, b, c1, d⟩ := HS w' hb
    exact ⟨(World.cell?_of_block (Below.heap_setCell _ _ _ _ nP)).trans a, (World.cell?_of_block (Below.heap_setCell _ _ _ _ nX)).trans b, (World.cell?_of_block (Below.heap_setCell _ _ _ _ nF)).trans c1, (World.cell?_of_block (Below.heap_setCell _ _ _ _ nF)).trans d⟩
  clear hS4
  refine wp_region_held_drew (S := (fun (w' : World) => w'.cell? ⟨bp, 0, none⟩ = some (.pointer (some ⟨bx, 0, none⟩)) ∧ w'.cell? ⟨bx, 0, none⟩ = some (.slice (some ⟨b1, 0, none⟩) n n) ∧ w'.cell? ⟨fb, 1, none⟩ = some (.slice A l.length c) ∧ w'.cell? ⟨fb, 2, none⟩ = some (.int .i64 (R : Int)))) (by kernel_rfl) ?_ (fun hHeld => ?_)
  · (exact HS _ (Below.refl _ _).drew)
  refine wpAnyH_take (i := 0) (v := ?_) rfl (by kernel_rfl) (by kernel_rfl) (by kernel_rfl) (fun _ _ _ h => hQp _ _ _ _ h) (Or.inl ⟨by rfl, ?_⟩) (by assumption) ?_
  rotate_left
  · (intro w' hSw; (try dsimp only at hSw); go_simp <;> with_reducible rfl)
  (try simp only [Act.put, List.setIfInBounds_toArray, List.set_cons_zero, List.set_cons_succ])
  refine wpAnyH_take (i := 1) (v := ?_) rfl (by kernel_rfl) (by kernel_rfl) (by kernel_rfl) (fun _ _ _ h => hQp _ _ _ _ h) (Or.inl ⟨by rfl, ?_⟩) (by assumption) ?_
  rotate_left
  · (intro w' hSw; (try dsimp only at hSw); go_simp <;> with_reducible rfl)
  (try simp only [Act.put, List.setIfInBounds_toArray, List.set_cons_zero, List.set_cons_succ])
  refine wpAnyH_take (i := 2) (v := ?_) rfl (by kernel_rfl) (by kernel_rfl) (by kernel_rfl) (fun _ _ _ h => hQp _ _ _ _ h) (Or.inl ⟨by rfl, ?_⟩) (by assumption) ?_
  rotate_left
  · (intro w' hSw; (try dsimp only at hSw); go_simp <;> with_reducible rfl)
  (try simp only [Act.put, List.setIfInBounds_toArray, List.set_cons_zero, List.set_cons_succ])
  refine wpAnyH_take (i := 3) (v := ?_) rfl (by kernel_rfl) (by kernel_rfl) (by kernel_rfl) (fun _ _ _ h => hQp _ _ _ _ h) (Or.inl ⟨by rfl, ?_⟩) (by assumption) ?_
  rotate_left
  · (intro w' hSw; (try dsimp only at hSw); go_simp <;> with_reducible rfl)
  (try simp only [Act.put, List.setIfInBounds_toArray, List.set_cons_zero, List.set_cons_succ])
  refine wpAnyH_take (i := 4) (v := ?_) rfl (by kernel_rfl) (by kernel_rfl) (by kernel_rfl) (fun _ _ _ h => hQp _ _ _ _ h) (Or.inl ⟨by rfl, ?_⟩) (by assumption) ?_
  rotate_left
  · (intro w' hSw; (try dsimp only at hSw); go_simp <;> with_reducible rfl)
  (try simp only [Act.put, List.setIfInBounds_toArray, List.set_cons_zero, List.set_cons_succ])
  refine wpAnyH_take (i := 5) (v := ?_) rfl (by kernel_rfl) (by kernel_rfl) (by kernel_rfl) (fun _ _ _ h => hQp _ _ _ _ h) (Or.inl ⟨by rfl, ?_⟩) (by assumption) ?_
  rotate_left
  · (intro w' hSw; (try dsimp only at hSw); go_simp <;> with_reducible rfl)
  (try simp only [Act.put, List.setIfInBounds_toArray, List.set_cons_zero, List.set_cons_succ])
  refine wpAnyH_take (i := 6) (v := ?_) rfl (by kernel_rfl) (by kernel_rfl) (by kernel_rfl) (fun _ _ _ h => hQp _ _ _ _ h) (Or.inl ⟨by rfl, ?_⟩) (by assumption) ?_
  rotate_left
  · (intro w' hSw; (try dsimp only at hSw); go_simp <;> with_reducible rfl)
  (try simp only [Act.put, List.setIfInBounds_toArray, List.set_cons_zero, List.set_cons_succ])
  refine wpAnyH_take (i := 9) (v := ?_) rfl (by kernel_rfl) (by kernel_rfl) (by kernel_rfl) (fun _ _ _ h => hQp _ _ _ _ h) (Or.inl ⟨by rfl, ?_⟩) (by assumption) ?_
  rotate_left
  · (intro w' hSw; (try dsimp only at hSw); go_simp <;> with_reducible rfl)
  (try simp only [Act.put, List.setIfInBounds_toArray, List.set_cons_zero, List.set_cons_succ])
  refine wpAnyH_take (i := 10) (v := ?_) rfl (by kernel_rfl) (by kernel_rfl) (by kernel_rfl) (fun _ _ _ h => hQp _ _ _ _ h) (Or.inl ⟨by rfl, ?_⟩) (by assumption) ?_
  rotate_left
  · (intro w' hSw; (try dsimp only at hSw); go_simp <;> with_reducible rfl)
  (try simp only [Act.put, List.setIfInBounds_toArray, List.set_cons_zero, List.set_cons_succ])
  refine wpAnyH_take (i := 11) (v := ?_) rfl (by kernel_rfl) (by kernel_rfl) (by kernel_rfl) (fun _ _ _ h => hQp _ _ _ _ h) (Or.inl ⟨by rfl, ?_⟩) (by assumption) ?_
  rotate_left
  · (intro w' hSw; (try dsimp only at hSw); go_simp <;> with_reducible rfl)
  (try simp only [Act.put, List.setIfInBounds_toArray, List.set_cons_zero, List.set_cons_succ])
  refine wpAnyH_take (i := 12) (v := ?_) rfl (by kernel_rfl) (by kernel_rfl) (by kernel_rfl) (fun _ _ _ h => hQp _ _ _ _ h) (Or.inl ⟨by rfl, ?_⟩) (by assumption) ?_
  rotate_left
  · (intro w' hSw; (try dsimp only at hSw); go_simp <;> with_reducible rfl)
  (try simp only [Act.put, List.setIfInBounds_toArray, List.set_cons_zero, List.set_cons_succ])
  refine wpAnyH_take (i := 13) (v := ?_) rfl (by kernel_rfl) (by kernel_rfl) (by kernel_rfl) (fun _ _ _ h => hQp _ _ _ _ h) (Or.inl ⟨by rfl, ?_⟩) (by assumption) ?_
  rotate_left
  · (intro w' hSw; (try dsimp only at hSw); go_simp <;> with_reducible rfl)
  (try simp only [Act.put, List.setIfInBounds_toArray, List.set_cons_zero, List.set_cons_succ])
  refine wpAnyH_take (i := 14) (v := ?_) rfl (by kernel_rfl) (by kernel_rfl) (by kernel_rfl) (fun _ _ _ h => hQp _ _ _ _ h) (Or.inl ⟨by rfl, ?_⟩) (by assumption) ?_
  rotate_left
  · (intro w' hSw; (try dsimp only at hSw); go_simp <;> with_reducible rfl)
  (try simp only [Act.put, List.setIfInBounds_toArray, List.set_cons_zero, List.set_cons_succ])
  refine wpAnyH_ready (rs := [7]) (by kernel_rfl) (by simp) ?_
  refine AllReadyH.cons rfl (fun K hK => ?_) AllReadyH.nil
  go_simp; go_at_call 33; refine (cloneP A c l hl6 hnil w.drew (HR.out.below (Below.refl _ _).drew (Nat.le_refl _))).mono ?_; rintro e w2 hC; obtain ⟨v2, rfl, hv0, own2, hb2⟩ := hC; obtain ⟨A2, c2, rfl, hn2⟩ := own_slice own2; have hlc : l.length ≤ c2 := own_room own2; have hcm : c2 ≤ maxLen := own_max own2; have hn0 : A2 = none → l.length = 0 := own_none own2; go_wp2_with fail; have B2 : Below w.heap.size w w2 := (Below.refl _ _).drew.trans hb2
  refine hK.out _ _ ?_ (fun hHeld => ?_)
  · (exact HS _ B2)
  clear hK K
  (try simp only [Act.put, List.setIfInBounds_toArray, List.set_cons_zero, List.set_cons_succ])
  refine wpAnyH_ready (rs := [8]) (by kernel_rfl) (by simp) ?_
  refine AllReadyH.cons rfl (fun K hK => ?_) AllReadyH.nil
  go_simp; go_at_call 32; refine (clipP A2 l.length c2 hlc hcm hn0 w2).mono ?_; rintro e w2' ⟨rfl, rfl⟩; go_wp2_with fail
  refine hK.out _ _ ?_ (fun hHeld => ?_)
  · (exact HS _ B2)
  clear hK K
  (try simp only [Act.put, List.setIfInBounds_toArray, List.set_cons_zero, List.set_cons_succ])
  obtain ⟨g, cp, w3, hrun, hg, hcR, hcp, hrow, hgr⟩ := begin_app w2 w.heap.size 26 A2 c2 R l hR hR6 hlR B2.size own2
  have B3 : Below w.heap.size w w3 := B2.trans ⟨hgr.os, hgr.tape, hgr.output, hgr.size, fun i hi => hgr.block i (Nat.lt_of_lt_of_le hi B2.size) (by simp)⟩
  refine wpAnyH_ready (rs := [15]) (by kernel_rfl) (by simp) ?_
  refine AllReadyH.cons rfl (fun K hK2 => ?_) AllReadyH.nil
  refine step_append_run rfl _ _ _ _ rfl hrun ?_
  refine hK2.out _ _ ?_ (fun hHeld => ?_)
  · (exact HS _ B3)
  clear hK2 K
  (try simp only [Act.put, List.setIfInBounds_toArray, List.set_cons_zero, List.set_cons_succ])
  have f3 := f1.below' B3
  have d0 := f3.cell 0
  have e0 := f3.frozen 0
  rw [hc0] at d0
  refine wpAnyH_take (i := 16) (v := ?_) rfl (by kernel_rfl) (by kernel_rfl) (by kernel_rfl) (fun _ _ _ h => hQp _ _ _ _ h) (Or.inl ⟨by rfl, ?_⟩) (by assumption) ?_
  rotate_left
  · (intro w' hSw; (try dsimp only at hSw); go_simp <;> with_reducible rfl)
  (try simp only [Act.put, List.setIfInBounds_toArray, List.set_cons_zero, List.set_cons_succ])
  refine wpAnyH_ready (rs := [17]) (by kernel_rfl) (by simp) ?_
  refine AllReadyH.cons rfl (fun K hK => ?_) AllReadyH.nil
  go_simp
  refine hK.out _ _ ?_ (fun hHeld => ?_)
  · (exact HS2 _ B3 g cp)
  clear hK K
  (try simp only [Act.put, List.setIfInBounds_toArray, List.set_cons_zero, List.set_cons_succ])
  refine wpAnyH_done (by kernel_rfl) ?_ _
  exact HKK.out g cp w3 _ _ _ _ _ _ _ _ _ _ _ _ _ _ _ _ _ hg hcR hcp hrow B3
end Go.Proofs.YtddobhneplfddaaDoor

namespace Go.Proofs.YtddobhneplfddaaDoor
set_option maxRecDepth 100000
open Go.RowKit
set_option linter.unusedSimpArgs false
set_option linter.unusedVariables false
theorem use_wp {P : Program} {F : Code → Option Code} {b d : Code} {Q : Exit → Act → World → Prop} {a : Act} {w : World} (h : ∃ c, F b = some c ∧ Code.wp P c Q a w) (hd : F b = some d) : Code.wp P d Q a w := use_found (W := fun c => Code.wp P c Q a w) h hd
def onlyN (K : Act → World → Prop) : Exit → Act → World → Prop
  | .normal, a, w => K a w
  | _, _, _ => False
theorem wp_only {P : Program} {c : Code} {Q : Exit → Act → World → Prop} {a : Act} {w : World} (h : Code.wp P c (onlyN (Q .normal)) a w) : Code.wp P c Q a w :=
  wp_mono h fun e a w h => by cases e <;> first | exact h | exact h.elim
def chsV (n R k : Nat) (ca : Nat → Nat) : Array Value := ((List.range n).map fun j => if j < k then Value.slice (some ⟨ca j, 0, none⟩) R R else .slice none 0 0).toArray
theorem made1 (v : Value) (n : Nat) : madeCells #[v] n = (List.replicate n v).toArray := by
  apply Array.ext_getElem?
  intro j
  rcases Nat.lt_or_ge j n with h | h
  · simp [madeCells, h, Nat.mod_one]
  · rw [Array.getElem?_eq_none (by simp [madeCells]; omega), Array.getElem?_eq_none (by simp; omega)]
theorem chs0 (n R : Nat) (ca : Nat → Nat) : chsV n R 0 ca = madeCells #[.slice none 0 0] n := by
  rw [made1]
  unfold chsV
  congr 1
  apply List.ext_getElem (by simp)
  intro j h1 h2
  simp
/-- What lies in memory while the counts are laid. -/
structure LayR (wa : World) (n R fb b1 b3 b6 b8 bx bp : Nat) (fcs : Array Value) (k : Nat) (ca : Nat → Nat) (V : World) : Prop where
  bel : Below wa.heap.size wa V
  fb : Whl V fb 48 fcs
  ib : AtB wa V b1 26 (madeCells #[.slice none 0 0] n)
  chb : AtB wa V b3 44 (chsV n R k ca)
  mb : AtB wa V b6 4 (madeCells #[.bool false] n)
  jb : AtB wa V b8 3 (madeCells #[.int .i64 0] n)
  xb : AtB wa V bx 69 #[.slice (some ⟨b1, 0, none⟩) n n, .slice (some ⟨b3, 0, none⟩) n n, .slice (some ⟨b6, 0, none⟩) n n, .slice (some ⟨b8, 0, none⟩) n n]
  pb : AtB wa V bp 66 #[.pointer (some ⟨bx, 0, none⟩)]
  cs : ∀ j, j < k → AtB wa V (ca j) 3 (madeCells #[.int .i64 0] R)
  ne : ∀ j, j < k → ca j ≠ b8
  inj : ∀ i j, i < k → j < k → ca i = ca j → i = j
theorem LayR.step {wa V : World} {n R fb b1 b3 b6 b8 bx bp k : Nat} {fcs : Array Value} {ca : Nat → Nat} (h : LayR wa n R fb b1 b3 b6 b8 bx bp fcs k ca V) (hk : k < n) :
    LayR wa n R fb b1 b3 b6 b8 bx bp fcs (k + 1) (fun j => if j = k then V.heap.size else ca j) ((V.drew.alloc (.cells (madeCells #[.int .i64 0] R) 3)).setCell ⟨b3, k, none⟩ (.slice (some ⟨V.heap.size, 0, none⟩) R R)) := by
  have hd := h.bel.drew
  have n1 := whl_apart h.ib.2 h.chb.2 (by decide)
  have n2 := whl_apart h.mb.2 h.chb.2 (by decide)
  have n3 := whl_apart h.jb.2 h.chb.2 (by decide)
  have n4 := whl_apart h.xb.2 h.chb.2 (by decide)
  have n5 := whl_apart h.pb.2 h.chb.2 (by decide)
  have n6 := whl_apart h.fb h.chb.2 (by decide)
  have n8 : V.heap.size ≠ b3 := fun e => by have := h.chb.2.lt; omega
  have al : ∀ {b t cs}, AtB wa V b t cs → b ≠ b3 → AtB wa ((V.drew.alloc (.cells (madeCells #[.int .i64 0] R) 3)).setCell ⟨b3, k, none⟩ (.slice (some ⟨V.heap.size, 0, none⟩) R R)) b t cs := fun hb hne => ⟨hb.1, (Whl.alloc (w := V.drew) hb.2 _).far hne _⟩
  refine ⟨(below_alloc hd _).setCell (p := ⟨b3, k, none⟩) h.chb.1 _, (Whl.alloc (w := V.drew) h.fb _).far n6 _, al h.ib n1, ⟨h.chb.1, ?_⟩, al h.mb n2, al h.jb n3, al h.xb n4, al h.pb n5, fun j hj => ?_, fun j hj => ?_, fun i j hi hj e => ?_⟩
  · have h1 := (Whl.alloc (w := V.drew) h.chb.2 (.cells (madeCells #[.int .i64 0] R) 3)).put k (.slice (some ⟨V.heap.size, 0, none⟩) R R)
    have e : (chsV n R k ca).setIfInBounds k (.slice (some ⟨V.heap.size, 0, none⟩) R R) = chsV n R (k + 1) (fun j => if j = k then V.heap.size else ca j) := by
      unfold chsV
      rw [List.setIfInBounds_toArray]
      congr 1
      apply List.ext_getElem?
      intro j
      rw [List.getElem?_set, List.getElem?_map, List.getElem?_map]
      by_cases hj : j < n
      · rw [List.getElem?_range hj]
        by_cases e : k = j
        · subst e; simp [hk]
        · rw [if_neg e]
          have e1 : j ≠ k := fun q => e q.symm
          have e2 : (j < k + 1) ↔ (j < k) := by omega
          simp only [Option.map_some, e1, if_false, e2]
      · rw [List.getElem?_eq_none (by simp; omega), if_neg (by omega)]
        rfl
    rw [← e]; exact h1
  · by_cases e : j = k
    · subst e
      rw [if_pos rfl]
      have hw : Whl (V.drew.alloc (.cells (madeCells #[.int .i64 0] R) 3)) V.heap.size 3 (madeCells #[.int .i64 0] R) := Whl.new V.drew _ _
      exact ⟨h.bel.size, hw.far n8 _⟩
    · rw [if_neg e]
      have hb := h.cs j (by omega)
      exact al hb (whl_apart hb.2 h.chb.2 (by decide))
  · have := h.jb.2.lt
    by_cases e : j = k
    · rw [if_pos e]; omega
    · rw [if_neg e]; exact h.ne j (by omega)
  · have hlt : ∀ q, q < k → ca q < V.heap.size := fun q hq => (h.cs q hq).2.lt
    by_cases e1 : i = k <;> by_cases e2 : j = k
    · omega
    · rw [if_pos e1, if_neg e2] at e; have := hlt j (by omega); omega
    · rw [if_neg e1, if_pos e2] at e; have := hlt i (by omega); omega
    · rw [if_neg e1, if_neg e2] at e; exact h.inj i j (by omega) (by omega) e
end Go.Proofs.YtddobhneplfddaaDoor

namespace Go.Proofs.YtddobhneplfddaaDoor
set_option maxRecDepth 100000
open Go.RowKit
set_option linter.unusedSimpArgs false
set_option linter.unusedVariables false
def lay0 (b1 b3 b6 b8 g cp : Nat) (ca : Nat → Nat) : Lay := ⟨b1, b3, b6, b8, fun _ => g, fun _ => cp, ca⟩
def bareD (n R : Nat) : StD := { ins := List.replicate n none, marked := List.replicate n false, joined := List.replicate n 0, changes := List.replicate n (List.replicate R 0) }
theorem getD_rep {α : Type} (n i : Nat) (v d : α) (h : i < n) : (List.replicate n v).getD i d = v := by
  rw [List.getD_eq_getElem?_getD, List.getElem?_replicate, if_pos h]; rfl
theorem getD_rep_none {α : Type} (n i : Nat) : (List.replicate n (none : Option α)).getD i none = none := by
  rw [List.getD_eq_getElem?_getD, List.getElem?_replicate]; split <;> rfl
theorem emptyP {wa V : World} {B n R fb b1 b3 b6 b8 bx bp g cp : Nat} {fcs : Array Value} {ca : Nat → Nat} (h : LayR wa n R fb b1 b3 b6 b8 bx bp fcs n ca V) (hB : B ≤ wa.heap.size) :
    StP V B n R bx (lay0 b1 b3 b6 b8 g cp ca) (bareD n R) := by
  refine ⟨h.xb.2, ?_, ?_, ?_, ?_, fun i l hl => ?_, fun i hi => ?_, fun i hi => h.ne i hi, fun i j hi hj e => h.inj i j hi hj e, fun i j l m hl => ?_, fun k hk => ?_⟩
  · have e : (List.range n).map (inV (lay0 b1 b3 b6 b8 g cp ca) R (bareD n R)) = List.replicate n (.slice none 0 0) := by
      apply List.ext_getElem (by simp)
      intro j h1 h2
      simp only [List.getElem_map, List.getElem_replicate, inV]
      rw [show (bareD n R).ins = List.replicate n none from rfl, getD_rep_none]
    show Whl V b1 _ _
    rw [e, ← made1]
    exact h.ib.2
  · have e : ((List.range n).map (chV (lay0 b1 b3 b6 b8 g cp ca) R)).toArray = chsV n R n ca := by
      unfold chsV
      congr 1
      apply List.map_congr_left
      intro j hj
      rw [if_pos (List.mem_range.1 hj)]; rfl
    show Whl V b3 _ _
    rw [e]
    exact h.chb.2
  · have := h.mb.2
    rw [made1] at this
    show Whl V b6 _ _
    simpa [bareD] using this
  · have := h.jb.2
    rw [made1] at this
    show Whl V b8 _ _
    simpa [bareD, cellsN] using this
  · rw [show (bareD n R).ins = List.replicate n none from rfl, getD_rep_none] at hl; cases hl
  · have := (h.cs i hi).2
    rw [made1] at this
    rw [show (bareD n R).changes = List.replicate n (List.replicate R 0) from rfl, getD_rep _ _ _ _ hi]
    show Whl V (ca i) _ _
    simpa [cellsN] using this
  · rw [show (bareD n R).ins = List.replicate n none from rfl, getD_rep_none] at hl; cases hl
  · rcases hk with q | q | q | q | q | ⟨i, hi, q⟩ | ⟨i, l, hl, q⟩
    · have := h.xb.1; omega
    · have := h.ib.1; have e : k = b1 := q; omega
    · have := h.chb.1; have e : k = b3 := q; omega
    · have := h.mb.1; have e : k = b6 := q; omega
    · have := h.jb.1; have e : k = b8 := q; omega
    · have := (h.cs i hi).1; have e : k = ca i := q; omega
    · rw [show (bareD n R).ins = List.replicate n none from rfl, getD_rep_none] at hl; cases hl
theorem startP {wa V W2 : World} {B n R fb b1 b3 b6 b8 bx bp g cp : Nat} {fcs : Array Value} {ca : Nat → Nat} {F : FuncD} (h : LayR wa n R fb b1 b3 b6 b8 bx bp fcs n ca V) (hB : B ≤ wa.heap.size) (hn0 : 0 < n) (hb : Below V.heap.size V W2) (hg : V.heap.size ≤ g)
    (hr : RowE W2 g cp (beginD F)) (hc : R ≤ cp) (hm : cp ≤ maxLen) (hN : F.code.length = n) (hR : F.regs.toNat = R) :
    StP ((W2.setCell ⟨b1, 0, none⟩ (.slice (some ⟨g, 0, none⟩) R cp)).setCell ⟨b6, 0, none⟩ (.bool true)) B n R bx (StP.lay' (lay0 b1 b3 b6 b8 g cp ca) 0 g cp) (startD F) := by
  have h0 := emptyP (g := g) (cp := cp) (B := B) h hB
  have hlt : ∀ k, (lay0 b1 b3 b6 b8 g cp ca).has bx n (bareD n R) k → k < V.heap.size := fun k hk => h0.lt hk
  have h1 := h0.below' hb
  have h2 := h1.setIns (i := 0) (g := g) (c := cp) (nx := beginD F) (by simp [bareD]) hn0 (getD_rep_none _ _) hr hc hm (fun hh => by have := hlt g hh; omega) (by have := h.bel.size; omega)
  have h3 := h2.setMark 0 true
  have e : startD F = { ins := (bareD n R).ins.set 0 (some (beginD F)), marked := (bareD n R).marked.set 0 true, joined := (bareD n R).joined, changes := (bareD n R).changes } := by
    unfold startD bareD
    rw [hN, hR]
  rw [e]
  exact h3
set_option maxHeartbeats 1000000 in
theorem roundsF (sb : Nat) (w : World) : Calls Tryd.prog 34 #[.pointer (some ⟨sb, 0, none⟩)] w fun e w' =>
    e = .returned (.func (.func 60) #[] #[.pointer (some ⟨w.heap.size, 0, none⟩)]) ∧ w.alloc (.cells #[.pointer (some ⟨sb, 0, none⟩)] 66) = w' := by
  go_enter Tryd.func34, Tryd.ntmps34
  go_wp2
  go_ret
  exact ⟨rfl, rfl⟩
end Go.Proofs.YtddobhneplfddaaDoor

namespace Go.Proofs.YtddobhneplfddaaDoor
set_option maxRecDepth 100000
open Go.RowKit
set_option linter.unusedSimpArgs false
set_option linter.unusedVariables false
theorem stepD_snoc (m : ModD) (f : FuncD) (frm : Nat) (inn : List Sp) (tw : Int) : ∀ (l : List Int) (s : StD), stepD m f frm inn (l ++ [tw]) s = match awayD m f frm tw (nthX f.code frm) inn with
    | none => stepD m f frm inn l s
    | some out => mergeD (stepD m f frm inn l s) tw.toNat out m.ths
  | [], s => by
    simp only [List.nil_append, stepD]
    cases awayD m f frm tw (nthX f.code frm) inn <;> rfl
  | b :: l, s => by
    rw [List.cons_append, stepD, stepD_snoc m f frm inn tw l]
    rw [stepD]
theorem RowE.rowsAt {w : World} {g cp B : Nat} {r : List Sp} (h : RowE w g cp r) (hB : g < B) : RowsAt w B (some ⟨g, 0, none⟩) r.length 2 fun k => spV (nthS r k) := fun h0 => ⟨g, 0, rfl, hB, fun k hk j hj => by
    obtain ⟨a, b, _, _⟩ := cellsE h hk
    have e : nthS r k = r.getD k z0 := by simp [nthS, List.getD_eq_getElem?_getD, List.getElem?_eq_getElem hk]
    show w.cell? _ = some (spV (nthS r k) j)
    rw [e]
    have hj2 : j = 0 ∨ j = 1 := by omega
    rcases hj2 with rfl | rfl
    · rw [show 0 + k * 2 + 0 = k * 2 by omega]; exact a
    · rw [show 0 + k * 2 + 1 = k * 2 + 1 by omega]; exact b⟩
/-- A whole block of a type that the state has none of is no part of the state. -/
theorem whl_out {W : World} {B n R sb b : Nat} {L : Lay} {s : StD} {t : TypeId} {cs : Array Value} (h : StP W B n R sb L s) (hb : Whl W b t cs) (h1 : t ≠ 69) (h2 : t ≠ 26) (h3 : t ≠ 44) (h4 : t ≠ 4) (h5 : t ≠ 3) (h6 : t ≠ 34) : ¬ L.has sb n s b := by
  rintro (q | q | q | q | q | ⟨i, hi, q⟩ | ⟨i, l, hl, q⟩)
  · exact whl_apart hb h.st h1 q
  · exact whl_apart hb h.ins h2 q
  · exact whl_apart hb h.chs h3 q
  · exact whl_apart hb h.mks h4 q
  · exact whl_apart hb h.jns h5 q
  · exact whl_apart hb (h.cnts i hi) h5 q
  · obtain ⟨cur, hw⟩ := row_whl (h.rows i l hl).1
    exact whl_apart hb hw h6 q
/-- What stands between the rounds. -/
structure RunI (w : World) (n R bx f7 bp br b : Nat) (mcs fcs : Array Value) (s : StD) (W : World) : Prop where
  st : ∃ L, StP W w.heap.size n R bx L s ∧ ¬ L.has bx n s b ∧ ¬ L.has bx n s (b + 1)
  bel : Below w.heap.size w W
  mb : Whl W w.heap.size 25 mcs
  rb : Whl W (w.heap.size + 1) 39 #[.slice none 0 0, .slice none 0 0]
  fb : Whl W f7 48 fcs
  pb : Whl W bp 66 #[.pointer (some ⟨bx, 0, none⟩)]
  it : Whl W br 66 #[.pointer (some ⟨bx, 0, none⟩)]
end Go.Proofs.YtddobhneplfddaaDoor

namespace Go.Proofs.YtddobhneplfddaaDoor
set_option maxRecDepth 100000
open Go.RowKit
set_option linter.unusedSimpArgs false
set_option linter.unusedVariables false
/-- The state, where it lies; other blocks that stay as they were. -/
structure VisL (w V0 : World) (n R bx : Nat) (K : List Nat) (L : Lay) (s : StD) (V : World) : Prop where
  st : StP V w.heap.size n R bx L s
  far : ∀ k, k ∈ K → ¬ L.has bx n s k
  bel : Below w.heap.size w V
  size : V0.heap.size ≤ V.heap.size
  same : ∀ k, k ∈ K → k < V.heap.size ∧ V.heap[k]? = V0.heap[k]?
namespace VisL
variable {w V0 V V1 V2 V3 : World} {n R bx : Nat} {K : List Nat} {L : Lay} {s s' : StD} {g : Nat} {e : Ending}
theorem below (h : VisL w V0 n R bx K L s V) (hb : Below V.heap.size V V1) : VisL w V0 n R bx K L s V1 :=
  ⟨h.st.below' hb, h.far, h.bel.trans (hb.mono h.bel.size), Nat.le_trans h.size hb.size, fun k hk => ⟨Nat.lt_of_lt_of_le (h.same k hk).1 hb.size, (hb.block k (h.same k hk).1).trans (h.same k hk).2⟩⟩
theorem whl (h : VisL w V0 n R bx K L s V) {k : Nat} {t : TypeId} {cs : Array Value} (hk : k ∈ K) (hw : Whl V0 k t cs) : Whl V k t cs := (h.same k hk).2.trans hw
theorem fresh (h : VisL w V0 n R bx K L s V) (hg : V.heap.size ≤ g) : ¬ L.has bx n s g := fun q => by have := h.st.lt q; omega
theorem merged (h : VisL w V0 n R bx K L s V2) (hg : ∀ k, k ∈ K → k ≠ g) (hm : MergeOk w.heap.size n R bx L s s' g V2 e V3) : ∃ L', VisL w V0 n R bx K L' s' V3 := by
  obtain ⟨_, hb, L', hS, hk, hl⟩ := hm
  refine ⟨L', hS, fun k hkk q => ?_, h.bel.trans hb, Nat.le_trans h.size hb.size, fun k hkk => ⟨Nat.lt_of_lt_of_le (h.same k hkk).1 hb.size, (hk k (h.same k hkk).1 (h.far k hkk)).trans (h.same k hkk).2⟩⟩
  rcases hl k q with q | q
  · exact h.far k hkk q
  · exact hg k hkk q
/-- How it stands ahead of the first way. -/
theorem start {W1 : World} {b f7 bp br g0 tb : Nat} {mcs fcs it : Array Value} (hS : StP W1 w.heap.size n R bx L s) (hB : Below w.heap.size w W1) (M1 : Whl W1 w.heap.size 25 mcs) (A1 : Whl W1 (w.heap.size + 1) 39 it) (F1 : Whl W1 f7 48 fcs)
    (P1 : Whl W1 bp 66 #[.pointer (some ⟨bx, 0, none⟩)]) (I1 : Whl W1 br 66 #[.pointer (some ⟨bx, 0, none⟩)]) (hb1 : ¬ L.has bx n s b) (hb2 : ¬ L.has bx n s (b + 1)) (hbl : b + 1 < W1.heap.size)
    (hg0 : W1.heap.size ≤ g0) (htb : W1.heap.size ≤ tb) (hV : Below W1.heap.size W1 V0) (hg1 : g0 < V0.heap.size) (ht1 : tb < V0.heap.size) :
    VisL w V0 n R bx [w.heap.size, w.heap.size + 1, f7, bp, br, b, b + 1, g0, tb] L s V0 := by
  refine ⟨hS.below' hV, fun k hk => ?_, hB.trans (hV.mono hB.size), Nat.le_refl _, fun k hk => ⟨?_, rfl⟩⟩
  · simp only [List.mem_cons, List.not_mem_nil, or_false] at hk
    rcases hk with rfl | rfl | rfl | rfl | rfl | rfl | rfl | rfl | rfl
    · exact whl_out hS M1 (by decide) (by decide) (by decide) (by decide) (by decide) (by decide)
    · exact whl_out hS A1 (by decide) (by decide) (by decide) (by decide) (by decide) (by decide)
    · exact whl_out hS F1 (by decide) (by decide) (by decide) (by decide) (by decide) (by decide)
    · exact whl_out hS P1 (by decide) (by decide) (by decide) (by decide) (by decide) (by decide)
    · exact whl_out hS I1 (by decide) (by decide) (by decide) (by decide) (by decide) (by decide)
    · exact hb1
    · exact hb2
    · exact fun q => by have := hS.lt q; omega
    · exact fun q => by have := hS.lt q; omega
  · simp only [List.mem_cons, List.not_mem_nil, or_false] at hk
    have := hV.size
    have := M1.lt
    have := A1.lt
    have := F1.lt
    have := P1.lt
    have := I1.lt
    rcases hk with rfl | rfl | rfl | rfl | rfl | rfl | rfl | rfl | rfl <;> omega
/-- What is left behind the last way. -/
theorem done {W W1 : World} {b f7 bp br g0 tb : Nat} {mcs fcs : Array Value} (h : VisL w V0 n R bx [w.heap.size, w.heap.size + 1, f7, bp, br, b, b + 1, g0, tb] L s V) (M1 : Whl W1 w.heap.size 25 mcs) (A1 : Whl W1 (w.heap.size + 1) 39 #[.slice none 0 0, .slice none 0 0]) (F1 : Whl W1 f7 48 fcs)
    (P1 : Whl W1 bp 66 #[.pointer (some ⟨bx, 0, none⟩)]) (I1 : Whl W1 br 66 #[.pointer (some ⟨bx, 0, none⟩)]) (hV : Below W1.heap.size W1 V0) (hbl : b + 1 < W1.heap.size) (e1 : W1.heap.size = W.heap.size) (eb : ∀ k, k = b ∨ k = b + 1 → W1.heap[k]? = W.heap[k]?) :
    KeepM b W V ∧ RunI w n R bx f7 bp br b mcs fcs s V := by
  have key : ∀ {k t cs}, k ∈ [w.heap.size, w.heap.size + 1, f7, bp, br, b, b + 1, g0, tb] → Whl W1 k t cs → Whl V k t cs := fun hk hw => h.whl hk (hw.below' hV)
  refine ⟨⟨by have := h.size; have := hV.size; omega, fun k hk => ?_⟩, ⟨L, h.st, h.far _ (by simp), h.far _ (by simp)⟩, h.bel, key (by simp) M1, key (by simp) A1, key (by simp) F1, key (by simp) P1, key (by simp) I1⟩
  have hm : k ∈ [w.heap.size, w.heap.size + 1, f7, bp, br, b, b + 1, g0, tb] := by rcases hk with rfl | rfl <;> simp
  rw [(h.same k hm).2, hV.block k (by rcases hk with rfl | rfl <;> omega), eb k hk]
end VisL
/-- A row of whole numbers that the call has made, in a block of its own. -/
def RowI (w : World) (tb : Nat) (l : List Int) : Prop := ∃ cur, Whl w tb 3 cur ∧ ∀ k, k < l.length → cur[k]? = some (.int .i64 (l.getD k 0))
theorem RowI.cell {w : World} {tb : Nat} {l : List Int} (h : RowI w tb l) {k : Nat} (hk : k < l.length) : w.cell? ⟨tb, k, none⟩ = some (.int .i64 (l.getD k 0)) := by
  obtain ⟨cur, hw, hc⟩ := h
  rw [hw.cell]; exact hc k hk
theorem RowI.whl {w : World} {tb : Nat} {l : List Int} (h : RowI w tb l) : ∃ cur, Whl w tb 3 cur := by obtain ⟨cur, hw, _⟩ := h; exact ⟨cur, hw⟩
theorem rowI_of_own {w : World} {base c : Nat} {A : Option Addr} {l : List Int} (h : OwnI w base (.slice A l.length c) l) (h0 : 0 < l.length) : ∃ tb, A = some ⟨tb, 0, none⟩ ∧ base ≤ tb ∧ RowI w tb l := by
  rcases h.2 with ⟨_, e0⟩ | ⟨g, cap, cur, e0, hb, hh, _, _, _, ht⟩
  · omega
  · cases e0
    refine ⟨g, rfl, hb, cur, hh, fun k hk => ?_⟩
    have e : (l.map (Value.int .i64))[k]? = some (.int .i64 (l.getD k 0)) := by
      rw [List.getElem?_map, List.getD_eq_getElem?_getD, List.getElem?_eq_getElem hk]; rfl
    rw [← ht, List.getElem?_take] at e
    split at e
    · simpa using e
    · cases e
theorem stepD_take (m : ModD) (f : FuncD) (frm : Nat) (inn : List Sp) (l : List Int) (s : StD) {k : Nat} (hk : k < l.length) : stepD m f frm inn (l.take (k + 1)) s = match awayD m f frm (l.getD k 0) (nthX f.code frm) inn with
    | none => stepD m f frm inn (l.take k) s
    | some out => mergeD (stepD m f frm inn (l.take k) s) (l.getD k 0).toNat out m.ths := by
  have e : l.take (k + 1) = l.take k ++ [l.getD k 0] := by
    rw [List.take_succ_eq_append_getElem hk, List.getD_eq_getElem?_getD, List.getElem?_eq_getElem hk]; rfl
  rw [e, stepD_snoc]
  all_goals cases awayD m f (frm : Int) (l.getD k 0) (nthX f.code frm) inn <;> rfl
end Go.Proofs.YtddobhneplfddaaDoor

namespace Go.Proofs.YtddobhneplfddaaDoor
set_option maxRecDepth 100000
open Go.RowKit Go.Shelf
set_option linter.unusedSimpArgs false
set_option linter.unusedVariables false
attribute [local go_sem] Oper.semAt_some
set_option maxHeartbeats 4000000 in
theorem visitP0 {w W : World} {n R bx f7 bp br b i l : Nat} {m : ModD} {F : FuncD} {mcs fcs : Array Value} {s : StD} {pre : List Nat} {x0 x1 x3 x4 x5 x6 x8 x10 x12 x13 x14 x15 x16 x17 x18 x19 x20 x21 x22 x23 x24 x25 x26 x27 x28 x29 x30 x31 x32 x33 x34 x35 x36 x37 x38 x39 x40 x41 x42 x43 x44 x45 x46 x47 x48 x49 x50 x51 x52 x53 x54 x55 x56 x57 x58 x59 x60 x61 x62 x63 x64 x65 x66 x67 x68 x69 x70 x71 x72 x73 x74 x75 x76 x77 x78 x79 x80 x81 x82 x83 x84 x85 x86 x87 x88 x89 x90 x91 x92 x93 x94 x95 x96 x97 x98 x99 x100 x101 x102 x103 x104 x105 x106 x107 x108 x109 x110 x111 x112 x113 x114 x115 x116 x117 x118 x119 x120 x121 x122 x123 x124 x125 x126 x127 x128 x129 x130 x131 x132 x133 x134 x135 x136 x137 x138 x139 x140 x141 x142 : Value} (h : RunI w n R bx f7 bp br b mcs fcs s W) (hn : n ≤ 1024) (hi : i < n) (hl : s.marked.length = n) (hm : s.marked.getD i false = false) :
    ∃ c, findB (bodyOf Tryd.f15) = some c ∧ c.wpIn (Fence.wide.inRound l) 8 Tryd.prog (postM b (fun (_ : List Nat) V => RunI w n R bx f7 bp br b mcs fcs (visitD m F s i) V) pre W) { tmps := #[x0, x1, .pointer (some ⟨w.heap.size, 0, none⟩), x3, x4, x5, x6, .pointer (some ⟨f7, 0, none⟩), x8, .pointer (some ⟨bp, 0, none⟩), x10, .int .i64 (i : Int), x12, x13, x14, x15, x16, x17, x18, x19, x20, x21, x22, x23, x24, x25, x26, x27, x28, x29, x30, x31, x32, x33, x34, x35, x36, x37, x38, x39, x40, x41, x42, x43, x44, x45, x46, x47, x48, x49, x50, x51, x52, x53, x54, x55, x56, x57, x58, x59, x60, x61, x62, x63, x64, x65, x66, x67, x68, x69, x70, x71, x72, x73, x74, x75, x76, x77, x78, x79, x80, x81, x82, x83, x84, x85, x86, x87, x88, x89, x90, x91, x92, x93, x94, x95, x96, x97, x98, x99, x100, x101, x102, x103, x104, x105, x106, x107, x108, x109, x110, x111, x112, x113, x114, x115, x116, x117, x118, x119, x120, x121, x122, x123, x124, x125, x126, x127, x128, x129, x130, x131, x132, x133, x134, x135, x136, x137, x138, x139, x140, x141, x142], defers := [] } W := by
  refine ⟨_, rfl, ?_⟩
  have H := Lib.hid h
  obtain ⟨L, hS, hb1, hb2⟩ := h.st
  have c0 := h.pb.cell 0
  have c1 := hS.c2
  have c2 := hS.mksC (i := i) (by omega)
  rw [hm] at c2
  simp only [List.getElem?_toArray, List.getElem?_cons_zero, List.getElem?_cons_succ] at c0
  have hii : (i : Int) < (n : Int) := by omega
  have HV := Lib.hid (visit_no (m := m) (f := F) hm)
  clear h hS hm
  gi_wp2
  refine ⟨⟨Nat.le_refl _, fun _ _ => rfl⟩, ?_⟩
  rw [HV.out]
  exact H.out
end Go.Proofs.YtddobhneplfddaaDoor

namespace Go.Proofs.YtddobhneplfddaaDoor
set_option maxRecDepth 100000
open Go.RowKit Go.Shelf
set_option linter.unusedSimpArgs false
set_option linter.unusedVariables false
attribute [local go_sem] Oper.semAt_some
set_option maxHeartbeats 8000000 in
theorem visitP1 {w W : World} {R bx f7 bp br b i l kf : Nat} {m : ModD} {F : FuncD} {s : StD} {pre : List Nat} {x0 x1 x3 x4 x5 x6 x8 x10 x12 x13 x14 x15 x16 x17 x18 x19 x20 x21 x22 x23 x24 x25 x26 x27 x28 x29 x30 x31 x32 x33 x34 x35 x36 x37 x38 x39 x40 x41 x42 x43 x44 x45 x46 x47 x48 x49 x50 x51 x52 x53 x54 x55 x56 x57 x58 x59 x60 x61 x62 x63 x64 x65 x66 x67 x68 x69 x70 x71 x72 x73 x74 x75 x76 x77 x78 x79 x80 x81 x82 x83 x84 x85 x86 x87 x88 x89 x90 x91 x92 x93 x94 x95 x96 x97 x98 x99 x100 x101 x102 x103 x104 x105 x106 x107 x108 x109 x110 x111 x112 x113 x114 x115 x116 x117 x118 x119 x120 x121 x122 x123 x124 x125 x126 x127 x128 x129 x130 x131 x132 x133 x134 x135 x136 x137 x138 x139 x140 x141 x142 : Value} (wm : m.Wf) (hmay : mayD m = ⟨0, 0, 0⟩) (hkm : kf < m.funcs.length) (hF : nthF m.funcs kf = F) (hM : ModOk w w.heap.size m) (hRR : F.regs = (R : Int))
    (h : RunI w F.code.length R bx f7 bp br b #[.slice m.ta m.ths.length m.tc, .slice m.fa m.funcs.length m.fc] #[.string F.name, .slice F.pa F.params.length F.pc, .int .i64 (R : Int), .int .i64 F.words, .slice F.ca F.code.length F.cc] s W) (hi : i < F.code.length) (hg : GoodS m F s) (hm : s.marked.getD i false = true) (hbl : b + 1 < W.heap.size) :
    ∃ c, findB (bodyOf Tryd.f15) = some c ∧ c.wpIn (Fence.wide.inRound l) 8 Tryd.prog (postM b (fun (_ : List Nat) V => RunI w F.code.length R bx f7 bp br b #[.slice m.ta m.ths.length m.tc, .slice m.fa m.funcs.length m.fc] #[.string F.name, .slice F.pa F.params.length F.pc, .int .i64 (R : Int), .int .i64 F.words, .slice F.ca F.code.length F.cc] (visitD m F s i) V) pre W) { tmps := #[x0, x1, .pointer (some ⟨w.heap.size, 0, none⟩), x3, x4, x5, x6, .pointer (some ⟨f7, 0, none⟩), x8, .pointer (some ⟨bp, 0, none⟩), x10, .int .i64 (i : Int), x12, x13, x14, x15, x16, x17, x18, x19, x20, x21, x22, x23, x24, x25, x26, x27, x28, x29, x30, x31, x32, x33, x34, x35, x36, x37, x38, x39, x40, x41, x42, x43, x44, x45, x46, x47, x48, x49, x50, x51, x52, x53, x54, x55, x56, x57, x58, x59, x60, x61, x62, x63, x64, x65, x66, x67, x68, x69, x70, x71, x72, x73, x74, x75, x76, x77, x78, x79, x80, x81, x82, x83, x84, x85, x86, x87, x88, x89, x90, x91, x92, x93, x94, x95, x96, x97, x98, x99, x100, x101, x102, x103, x104, x105, x106, x107, x108, x109, x110, x111, x112, x113, x114, x115, x116, x117, x118, x119, x120, x121, x122, x123, x124, x125, x126, x127, x128, x129, x130, x131, x132, x133, x134, x135, x136, x137, x138, x139, x140, x141, x142], defers := [] } W := by
  refine ⟨_, rfl, ?_⟩
  obtain ⟨l0, hl0, hlen, hgd⟩ := row_at hg hm
  have hv := visit_yes (m := m) (f := F) hm
  rw [hl0] at hv
  simp only [Option.getD_some] at hv
  have hn1 := (f_ok2 hmay hkm).2.1
  have hr1 := (f_ok hmay hkm).regs
  rw [hF] at hn1 hr1
  have hgu := unmark_good hg i
  obtain ⟨L, hS, hb1, hb2⟩ := h.st
  have c0 := h.pb.cell 0
  have c1 := hS.c2
  have c2 := hS.mksC (i := i) (by rw [hg.ok.lm]; exact hi)
  have z2 := hS.mks.frozen i
  rw [hm] at c2
  simp only [List.getElem?_toArray, List.getElem?_cons_zero, List.getElem?_cons_succ] at c0
  have hii : (i : Int) < (F.code.length : Int) := by omega
  obtain rfl : l0.length = R := by omega
  have hR1 : 0 < l0.length := by omega
  have hR64 : l0.length ≤ 64 := by omega
  have hSm := hS.setMark i false
  have nm : ∀ {q t cs}, Whl W q t cs → t ≠ 4 → q ≠ L.mkb := fun hq ht => whl_apart hq hS.mks ht
  have P1 := h.pb.far (p := ⟨L.mkb, i, none⟩) (nm h.pb (by decide)) (.bool false)
  have d0 := P1.cell 0
  have d1 := hSm.c0
  have d3 := hSm.insC hi
  have lmk := hS.mks.lt
  have lpb := h.pb.lt
  have lst := hSm.st.lt
  have lin := hSm.ins.lt
  obtain ⟨W1, hW1⟩ : ∃ W1, W.setCell ⟨L.mkb, i, none⟩ (.bool false) = W1 := ⟨_, rfl⟩
  rw [hW1] at hSm P1
  have hrow := (hSm.rows i l0 hl0).1
  have F1 := h.fb.far (p := ⟨L.mkb, i, none⟩) (nm h.fb (by decide)) (.bool false)
  have M1 := h.mb.far (p := ⟨L.mkb, i, none⟩) (nm h.mb (by decide)) (.bool false)
  have A1 := h.rb.far (p := ⟨L.mkb, i, none⟩) (nm h.rb (by decide)) (.bool false)
  have I1 := h.it.far (p := ⟨L.mkb, i, none⟩) (nm h.it (by decide)) (.bool false)
  have B1 : Below w.heap.size w (W.setCell ⟨L.mkb, i, none⟩ (.bool false)) := h.bel.setCell (hS.old _ (.inr (.inr (.inr (.inl rfl))))) _
  have e1 : ∀ k, k ≠ L.mkb → (W.setCell ⟨L.mkb, i, none⟩ (.bool false)).heap[k]? = W.heap[k]? := fun k hk => Below.heap_setCell _ _ _ k hk
  have s1 : (W.setCell ⟨L.mkb, i, none⟩ (.bool false)).heap.size = W.heap.size := by simp
  have nb1 : b ≠ L.mkb := fun e => hb1 (.inr (.inr (.inr (.inl e))))
  have nb2 : b + 1 ≠ L.mkb := fun e => hb2 (.inr (.inr (.inr (.inl e))))
  rw [hW1] at F1 M1 A1 I1 B1 e1 s1
  have hins : ({ s with marked := s.marked.set i false } : StD).ins.getD i none = some l0 := hl0
  simp only [inV, hl0] at d3
  simp only [List.getElem?_toArray, List.getElem?_cons_zero, List.getElem?_cons_succ] at d0
  have HW1 := Lib.hid hW1
  have HH := Lib.hid h
  have HS := Lib.hid hS
  have HSm := Lib.hid hSm
  have HV := Lib.hid hv
  have HF := Lib.hid hF
  have HMY := Lib.hid hmay
  have HRR := Lib.hid hRR
  have HL0 := Lib.hid hl0
  have HLN := Lib.hid hlen
  have HE1 := Lib.hid e1
  have HGU := Lib.hid hgu
  clear h hS hSm hW1 hv hF hmay hRR hl0 hlen nm hins e1 hm hgu hg
  have hM1 : ModOk W1 w.heap.size m := hM.below B1 (Nat.le_refl _)
  have hnx : ∀ k, k < F.code.length → known (nthX F.code k).op = true ∧ (nthX F.code k).Wf := fun k hk => by
    rw [← HF.out] at hk ⊢
    exact ⟨(i_ok ((f_ok HMY.out hkm).ins k hk)).known, (wm.funcs _ (nthF_mem hkm)).code _ (nthX_mem hk)⟩
  have HN := Lib.hid hnx
  have AJ := Lib.hid (fun (too : Int) (g cp : Nat) (hcr : l0.length ≤ cp) (hcp : cp ≤ maxLen) (V : World) (hMV : ModOk V w.heap.size m) (hB : w.heap.size ≤ g) (hBV : w.heap.size ≤ V.heap.size) (hRV : RowS V g cp l0) => awayJ m wm HMY.out hkm (frm := i) (by rw [HF.out]; exact hi) too g cp w.heap.size l0 (by rw [HF.out]; exact HRR.out.symm) hcr hcp (fun k q hq => by have := hgd k; rw [List.getD_eq_getElem?_getD, hq] at this; exact this.2) V hMV hB hBV hRV)
  rw [HF.out] at AJ
  have NX := Lib.hid (fun (V : World) (hIV : InsAt V V.heap.size F.ca F.code) => nextP F (by omega) (i : Int) ⟨by omega, by omega⟩ V hIV HN.out)
  have hval : F.val = .agg #[.string F.name, .slice F.pa F.params.length F.pc, .int .i64 (l0.length : Int), .int .i64 F.words, .slice F.ca F.code.length F.cc] := by rw [FuncD.val, HRR.out]
  simp only [hval] at AJ NX
  clear hval
  have WF : F.Wf := HF.out ▸ wm.funcs _ (nthF_mem hkm)
  have HST := Lib.hid (fun k => (step_ok wm WF hi hgd HLN.out ((nextD F (i : Int)).take k) _ (fun c hc => nextD_lt (List.mem_of_mem_take hc)) HGU.out).1)
  have hf0 := may_few HMY.out
  have HTW := Lib.hid (fun (k : Nat) (hk : k < (nextD F (i : Int)).length) => nextD_lt (f := F) (a := i) (b := (nextD F (i : Int)).getD k 0) (by rw [List.getD_eq_getElem?_getD, List.getElem?_eq_getElem hk]; exact List.getElem_mem hk))
  have HTK := Lib.hid (fun (k : Nat) (hk : k < (nextD F (i : Int)).length) => stepD_take m F i l0 (nextD F (i : Int)) { s with marked := s.marked.set i false } hk)
  have hl2 : (nextD F (i : Int)).length ≤ maxLen := next_len F (i : Int)
  unfold maxLen at hl2
  have HI := Lib.hid (show InsAt W1 W1.heap.size F.ca F.code from by have := ((hM1.each kf hkm).code).more B1.size; rw [HF.out] at this; exact this)
  clear hnx
  gi_wp2_with fail
  refine ⟨trivial, ?_⟩
  gi_at_call 33
  refine (CallsIn.inRound l (callsIn_wide.2 (cloneP (some ⟨L.ga i, 0, none⟩) (L.cp i) l0 (by omega) (fun e => by cases e) _ (by rw [HW1.out]; exact hrow.rowsAt hrow.lt)))).mono ?_
  rw [HW1.out]
  rintro e V1 ⟨v1, rfl, -, own1, hv1⟩
  obtain ⟨g0, cp0, rfl, hgb, hgc, hgm, row0⟩ := outOwn (w := w) (l := l0) (by omega) (by rw [Nat.zero_add, List.nil_append]; exact own1)
  have FV1 := F1.below' hv1
  have q0 := FV1.cell 0
  have q1 := FV1.cell 1
  have q2 := FV1.cell 2
  have q3 := FV1.cell 3
  have q4 := FV1.cell 4
  have lq := FV1.lt
  simp only [List.getElem?_toArray, List.getElem?_cons_zero, List.getElem?_cons_succ] at q0 q1 q2 q3 q4
  have HS1 := Lib.hid s1
  have HB1 := Lib.hid hb1
  have HB2 := Lib.hid hb2
  have HNB1 := Lib.hid nb1
  have HNB2 := Lib.hid nb2
  clear own1 s1 hb1 hb2 nb1 nb2 c0 c1 c2 d0 d1 d3 z2
  gi_wp2_with fail
  refine ⟨trivial, ?_⟩
  gi_at_call 28
  refine (CallsIn.inRound l (callsIn_wide.2 (NX.out _ ((HI.out.below hv1 (Nat.le_refl _)).more hv1.size)))).mono ?_
  rintro e V2 ⟨⟨v2, rfl, own2⟩, hv2⟩
  obtain ⟨A2, c2', rfl, hn2⟩ := own_slice own2
  have hV12 : Below W1.heap.size W1 V2 := hv1.trans (hv2.mono hv1.size)
  have hg1 : g0 < V2.heap.size := Nat.lt_of_lt_of_le row0.lt hv2.size
  have row2 : RowS V2 g0 cp0 l0 := row0.below hv2 row0.lt
  obtain ⟨tb, htb, ht1, hT⟩ : ∃ tb, W1.heap.size ≤ tb ∧ tb < V2.heap.size ∧ (0 < (nextD F (i : Int)).length → A2 = some ⟨tb, 0, none⟩ ∧ RowI V2 tb (nextD F (i : Int))) := by
    by_cases h0 : 0 < (nextD F (i : Int)).length
    · obtain ⟨tb, e, hb, hr⟩ := rowI_of_own own2 h0
      obtain ⟨cur, hw⟩ := hr.whl
      exact ⟨tb, Nat.le_trans hv1.size hb, hw.lt, fun _ => ⟨e, hr⟩⟩
    · exact ⟨g0, hgb, hg1, fun h => absurd h h0⟩
  have HL0' : VisL w V2 F.code.length l0.length bx [w.heap.size, w.heap.size + 1, f7, bp, br, b, b + 1, g0, tb] L { s with marked := s.marked.set i false } V2 :=
    VisL.start HSm.out B1 M1 A1 F1 P1 I1 (fun q => HB1.out ((has_same rfl _).1 q)) (fun q => HB2.out ((has_same rfl _).1 q)) (by have := HS1.out; omega) hgb htb hV12 hg1 ht1
  have MV2 := M1.below' hV12
  have FV2 := F1.below' hV12
  have PV2 := P1.below' hV12
  have HHT := Lib.hid hT
  have HM2 := Lib.hid (hM1.below (hV12.mono B1.size) (Nat.le_refl _))
  clear own2 hT q0 q1 q2 q3 q4 FV1 hn2
  generalize nextD F (i : Int) = tos at *
  gi_wp2_with fail
  gi_loopw [120] (fun ix V => ∃ (k : Nat) (L : Lay), k ≤ tos.length ∧ ix = .int .i64 k ∧ VisL w V2 F.code.length l0.length bx [w.heap.size, w.heap.size + 1, f7, bp, br, b, b + 1, g0, tb] L (stepD m F i l0 (tos.take k) { s with marked := s.marked.set i false }) V) (fun ix _ => tos.length - (intOf ix).toNat)
  case atStart => exact ⟨0, L, Nat.zero_le _, rfl, HL0'⟩
  case round =>
    obtain ⟨k, L3, hk, rfl, hvl⟩ := hrel
    clear HL0'
    by_cases hlt : k < tos.length
    · have hki : (k : Int) < (tos.length : Int) := by omega
      obtain ⟨hA2, hrI⟩ := HHT.out (Nat.lt_of_le_of_lt (Nat.zero_le _) hlt)
      subst hA2
      obtain ⟨tw, htw, htl⟩ : ∃ tw : Nat, tos.getD k 0 = (tw : Int) ∧ tw < F.code.length := by
        have := HTW.out k hlt
        exact ⟨(tos.getD k 0).toNat, by omega, by omega⟩
      have hst := HST.out k
      have hpos : 0 < tos.length := by omega
      have hsn := HTK.out k hlt
      rw [htw] at hsn
      obtain ⟨sk, hsk⟩ : ∃ sk, stepD m F i l0 (tos.take k) { s with marked := s.marked.set i false } = sk := ⟨_, rfl⟩
      rw [hsk] at hst hsn hvl
      obtain ⟨cur, hwt⟩ := hrI.whl
      have tc := hrI.cell hlt
      rw [htw] at tc
      have tc3 : wr.cell? ⟨tb, k, none⟩ = some (.int .i64 (tw : Int)) := by
        have e1 := (hvl.whl (k := tb) (by simp) hwt).cell k
        have e2 := hwt.cell k
        rw [e1, ← e2]; exact tc
      have rw3 : RowS wr g0 cp0 l0 := by
        obtain ⟨cr, hcr, hcc⟩ := row2
        exact ⟨cr, hvl.whl (by simp) hcr, hcc⟩
      have MV3 := hvl.whl (by simp) MV2
      have FV3 := hvl.whl (by simp) FV2
      have PV3 := hvl.whl (by simp) PV2
      have HSN := Lib.hid hsn
      have HST3 := Lib.hid hst
      have HMV3 := Lib.hid (hM.below hvl.bel (Nat.le_refl _))
      have lg0 := rw3.lt
      clear hsk hsn hst tc htw
      gi_wp2_with fail
      refine ⟨trivial, ?_⟩
      gi_at_call 33
      refine (CallsIn.inRound l (callsIn_wide.2 (cloneP (some ⟨g0, 0, none⟩) cp0 l0 (by omega) (fun e => by cases e) _ (rw3.toE.rowsAt lg0)))).mono ?_
      rintro e V3 ⟨v3, rfl, -, own3, hv3⟩
      obtain ⟨g, cp, rfl, hgb3, hgc3, hgm3, row3⟩ := outOwn (w := w) (l := l0) (by omega) (by rw [Nat.zero_add, List.nil_append]; exact own3)
      have MV4 := MV3.below' hv3
      have FV4 := FV3.below' hv3
      have PV4 := PV3.below' hv3
      have q0 := FV4.cell 0
      have q1 := FV4.cell 1
      have q2 := FV4.cell 2
      have q3 := FV4.cell 3
      have q4 := FV4.cell 4
      have m0 := MV4.cell 0
      have m1 := MV4.cell 1
      have lq := FV4.lt
      have lm := MV4.lt
      simp only [List.getElem?_toArray, List.getElem?_cons_zero, List.getElem?_cons_succ] at q0 q1 q2 q3 q4 m0 m1
      have hsz3 := hvl.bel.size
      have hsz4 := hv3.size
      clear own3
      gi_wp2_with fail
      refine ⟨trivial, ?_⟩
      gi_at_call 29
      refine (CallsIn.inRound l (callsIn_wide.2 (AJ.out (tw : Int) g cp hgc3 hgm3 _ (HMV3.out.below (hv3.mono hsz3) (Nat.le_refl _)) (by omega) (by omega) row3))).mono ?_
      rintro e V4 ⟨rfl, ⟨r4, hR4, hrl, hq⟩, hg4⟩
      have hB4 : Below wr.heap.size wr V4 := hv3.trans (belowOfGw hg4 hgb3 hv3.size)
      have VL4 := hvl.below hB4
      have MV5 := MV3.below' hB4
      have PV5 := PV3.below' hB4
      have p0 := PV5.cell 0
      have n0 := MV5.cell 0
      have lm5 := MV5.lt
      simp only [List.getElem?_toArray, List.getElem?_cons_zero, List.getElem?_cons_succ] at p0 n0
      have HR4 := Lib.hid hR4
      have HRL := Lib.hid hrl
      clear q0 q1 q2 q3 q4 m0 m1 tc3 MV4 FV4 PV4 hR4 hg4 row3 hrl
      cases ho : awayD m F i (tw : Int) (nthX F.code i) l0 with
      | none =>
        have e := HSN.out
        rw [ho] at e
        have HE := Lib.hid e
        clear hq e ho
        gi_wp2
        go_roundw
        case rel => exact ⟨k + 1, L3, by omega, by go_num, by rw [HE.out]; exact VL4⟩
        case measure => simp [intOf]; omega
      | some q =>
        have e := HSN.out
        rw [ho] at e
        obtain rfl := hq q ho
        have hrq := HRL.out
        have ga := (away_good (WF.code _ (nthX_mem hi)).2.2.2.2 hgd ho).2
        have HE := Lib.hid e
        have HG := Lib.hid ga
        have HRQ := Lib.hid hrq
        clear hq e ho hrq ga
        gi_wp2_with fail
        refine ⟨trivial, ?_⟩
        gi_at_call 35
        refine (CallsIn.inRound l (callsIn_wide.2 (mergeP w.heap.size F.code.length l0.length bx L3 sk tw g cp m.tc m.ta r4 m.ths _ VL4.st VL4.bel.size (by unfold maxLen; omega) (by omega) (by have := HST3.out.ok; rw [HRR.out, Int.toNat_natCast] at this; exact this) htl HRQ.out HR4.out hgc3 hgm3 (hvl.fresh hgb3) (by omega) hf0.1 (hM.below VL4.bel (Nat.le_refl _)).ths (by
          have := joined_le HST3.out htl
          rw [HRR.out, Int.toNat_natCast] at this
          have h2 : l0.length * (4 + m.ths.length + 2) ≤ 64 * 22 := Nat.mul_le_mul (by omega) (by omega)
          omega)))).mono ?_
        rintro e V5 hmo
        have hvv := hmo.1
        obtain ⟨vv, rfl⟩ := hvv
        obtain ⟨L5, VL5⟩ := VL4.merged (g := g) (fun k hk e => by have := (hvl.same k hk).1; omega) hmo
        clear hmo
        gi_wp2
        go_roundw
        case rel => exact ⟨k + 1, L5, by omega, by go_num, by rw [HE.out]; exact VL5⟩
        case measure => simp [intOf]; omega
    · have hkk : k = tos.length := by omega
      subst hkk
      clear hlt
      gi_wp2
      rw [HV.out]
      rw [List.take_length] at hvl
      exact hvl.done M1 A1 F1 P1 I1 hV12 (by have := HS1.out; omega) HS1.out (fun k hk => HE1.out k (by rcases hk with rfl | rfl; exact HNB1.out; exact HNB2.out))
end Go.Proofs.YtddobhneplfddaaDoor

namespace Go.Proofs.YtddobhneplfddaaDoor
set_option maxRecDepth 100000
open Go.RowKit Go.Shelf
set_option linter.unusedSimpArgs false
set_option linter.unusedVariables false
attribute [local go_sem] Oper.semAt_some
/-- The first range over a function. -/
def findG : Code → Option Code
  | .seq a b => match findG a with
    | some c => some c
    | none => findG b
  | .cond _ a b => match findG a with
    | some c => some c
    | none => findG b
  | .block _ c => findG c
  | .loop c => findG c
  | .scope c => findG c
  | .rangeFunc g p a b => some (.rangeFunc g p a b)
  | _ => none
theorem postM_mono {α β : Type} {b : Nat} {I : List α → World → Prop} {I' : List β → World → Prop} {xs : List α} {ys : List β} {W : World} (h : ∀ V, I xs V → I' ys V) : ∀ e a V, postM b I xs W e a V → postM b I' ys W e a V := fun e a V hp => by
  cases e with
  | normal => exact ⟨hp.1, h V hp.2⟩
  | ret => exact hp.elim
  | exit id => exact hp.elim
  | goto t => exact hp.elim
  | panic ch => exact hp.elim
  | outgrown => exact hp.elim
theorem below_putObj {B : Nat} {w w' : World} (h : Below B w w') {p : Nat} (hp : B ≤ p) (o : Obj) : Below B w (w'.putObj p o) :=
  ⟨h.os, h.tape, h.output, by simpa using h.size, fun k hk => (World.putObj_heap_other (by omega)).trans (h.block k hk)⟩
theorem RunI.putObj {w W : World} {n R bx f7 bp br b : Nat} {mcs fcs : Array Value} {s : StD} (h : RunI w n R bx f7 bp br b mcs fcs s W) (h0 : w.heap.size + 1 < b) (h1 : f7 < b) (h2 : bp < b) (h3 : br < b) (o : Obj) : RunI w n R bx f7 bp br b mcs fcs s (W.putObj (b + 1) o) := by
  have key : ∀ {q t cs}, q < b → Whl W q t cs → Whl (W.putObj (b + 1) o) q t cs := fun hq hw => (World.putObj_heap_other (by omega)).trans hw
  obtain ⟨L, hS, l1, l2⟩ := h.st
  exact ⟨⟨L, hS.keep fun k hk => World.putObj_heap_other (fun e => l2 (e ▸ hk)), l1, l2⟩, below_putObj h.bel (by omega) _, key (by omega) h.mb, key h0 h.rb, key h1 h.fb, key h2 h.pb, key h3 h.it⟩
theorem RunI.marks {w W : World} {m : ModD} {F : FuncD} {R bx f7 bp br b : Nat} {mcs fcs : Array Value} {ms : List Nat → List Bool} {pre : List Nat} {s : StD} (h : RunI w F.code.length R bx f7 bp br b mcs fcs s W) (hg : GoodS m F s) (hs : s.marked = ms pre) : MarksAt br bx F.code.length ms pre W := by
  obtain ⟨L, hS, _, _⟩ := h.st
  refine ⟨L.mkb, h.it.cell 0, hS.c2, hS.mks.lt, by rw [← hs]; exact hg.ok.lm, fun k hk => ?_⟩
  rw [← hs]
  exact hS.mksC (by rw [hg.ok.lm]; exact hk)
set_option maxHeartbeats 8000000 in
theorem rangeP {w W3 : World} {Q : Exit → Act → World → Prop} {R bx f7 bp br kf : Nat} {m : ModD} {F : FuncD} {x0 x1 x3 x4 x5 x6 x8 x10 x11 x12 x13 x14 x15 x16 x17 x18 x19 x20 x21 x22 x23 x24 x25 x26 x27 x28 x29 x30 x31 x32 x33 x34 x35 x36 x37 x38 x39 x40 x41 x42 x43 x44 x45 x46 x47 x48 x49 x50 x51 x52 x53 x54 x55 x56 x57 x58 x59 x60 x61 x62 x63 x64 x65 x66 x67 x68 x69 x70 x71 x72 x73 x74 x75 x76 x77 x78 x79 x80 x81 x82 x83 x84 x85 x86 x87 x88 x89 x90 x92 x93 x94 x95 x96 x97 x98 x99 x100 x101 x102 x103 x104 x105 x106 x107 x108 x109 x110 x111 x112 x113 x114 x115 x116 x117 x118 x119 x120 x121 x122 x123 x124 x125 x126 x127 x128 x129 x130 x131 x132 x133 x134 x135 x136 x137 x138 x139 x140 x141 x142 : Value} (wm : m.Wf) (hmay : mayD m = ⟨0, 0, 0⟩) (hkm : kf < m.funcs.length) (hF : nthF m.funcs kf = F) (hM : ModOk w w.heap.size m) (hRR : F.regs = (R : Int))
    (hS : ∃ L, StP W3 w.heap.size F.code.length R bx L (startD F)) (hG : GoodS m F (startD F)) (hB : Below w.heap.size w W3) (M3 : Whl W3 w.heap.size 25 #[.slice m.ta m.ths.length m.tc, .slice m.fa m.funcs.length m.fc]) (A3 : Whl W3 (w.heap.size + 1) 39 #[.slice none 0 0, .slice none 0 0]) (F3 : Whl W3 f7 48 #[.string F.name, .slice F.pa F.params.length F.pc, .int .i64 (R : Int), .int .i64 F.words, .slice F.ca F.code.length F.cc])
    (P3 : Whl W3 bp 66 #[.pointer (some ⟨bx, 0, none⟩)]) (I3 : Whl W3 br 66 #[.pointer (some ⟨bx, 0, none⟩)])
    (hQ : ∀ W L s, Final m F s → StP W w.heap.size F.code.length R bx L s → Below w.heap.size w W → W3.heap.size + 1 < W.heap.size → Whl W bp 66 #[.pointer (some ⟨bx, 0, none⟩)] → Whl W (w.heap.size + 1) 39 #[.slice none 0 0, .slice none 0 0] → ¬ L.has bx F.code.length s W3.heap.size → W.heap[W3.heap.size]? = some (.deferred (some [])) → Q .normal { tmps := #[x0, x1, .pointer (some ⟨w.heap.size, 0, none⟩), x3, x4, x5, x6, .pointer (some ⟨f7, 0, none⟩), x8, .pointer (some ⟨bp, 0, none⟩), x10, x11, x12, x13, x14, x15, x16, x17, x18, x19, x20, x21, x22, x23, x24, x25, x26, x27, x28, x29, x30, x31, x32, x33, x34, x35, x36, x37, x38, x39, x40, x41, x42, x43, x44, x45, x46, x47, x48, x49, x50, x51, x52, x53, x54, x55, x56, x57, x58, x59, x60, x61, x62, x63, x64, x65, x66, x67, x68, x69, x70, x71, x72, x73, x74, x75, x76, x77, x78, x79, x80, x81, x82, x83, x84, x85, x86, x87, x88, x89, x90, .func (.func 60) #[] #[.pointer (some ⟨br, 0, none⟩)], x92, x93, x94, x95, x96, x97, x98, x99, x100, x101, x102, x103, x104, x105, x106, x107, x108, x109, x110, x111, x112, x113, x114, x115, x116, x117, x118, x119, x120, x121, x122, x123, x124, x125, x126, x127, x128, x129, x130, x131, x132, x133, x134, x135, x136, x137, x138, x139, x140, x141, x142], defers := [{ target := .collected W3.heap.size, args := #[] }] } W) :
    ∃ c, findG (bodyOf Tryd.f15) = some c ∧ c.wp Tryd.prog Q { tmps := #[x0, x1, .pointer (some ⟨w.heap.size, 0, none⟩), x3, x4, x5, x6, .pointer (some ⟨f7, 0, none⟩), x8, .pointer (some ⟨bp, 0, none⟩), x10, x11, x12, x13, x14, x15, x16, x17, x18, x19, x20, x21, x22, x23, x24, x25, x26, x27, x28, x29, x30, x31, x32, x33, x34, x35, x36, x37, x38, x39, x40, x41, x42, x43, x44, x45, x46, x47, x48, x49, x50, x51, x52, x53, x54, x55, x56, x57, x58, x59, x60, x61, x62, x63, x64, x65, x66, x67, x68, x69, x70, x71, x72, x73, x74, x75, x76, x77, x78, x79, x80, x81, x82, x83, x84, x85, x86, x87, x88, x89, x90, .func (.func 60) #[] #[.pointer (some ⟨br, 0, none⟩)], x92, x93, x94, x95, x96, x97, x98, x99, x100, x101, x102, x103, x104, x105, x106, x107, x108, x109, x110, x111, x112, x113, x114, x115, x116, x117, x118, x119, x120, x121, x122, x123, x124, x125, x126, x127, x128, x129, x130, x131, x132, x133, x134, x135, x136, x137, x138, x139, x140, x141, x142], defers := [] } W3 := by
  refine ⟨_, rfl, ?_⟩
  have WF : F.Wf := hF ▸ wm.funcs _ (nthF_mem hkm)
  have hn1 := (f_ok2 hmay hkm).2.1
  rw [hF] at hn1
  obtain ⟨K, hK1, hK2, hK3⟩ := stops wm WF hG
  have b1 := M3.lt
  have b2 := A3.lt
  have b3 := F3.lt
  have b4 := P3.lt
  have b5 := I3.lt
  refine wpIn_wide.1 (wpIn_rangeFunc_M (gf := 60) (ra := #[]) (lb := #[.pointer (some ⟨br, 0, none⟩)]) rfl (enters_of Tryd.func60 (by kernel_rfl) rfl)
    (encs := fun k : Nat => #[.int .i64 k]) (xs := passes F.code.length K) (Ir := MarksAt br bx F.code.length fun pre => (afterD m F pre).marked)
    (fun o o' => roundsP br bx F.code.length K (fun pre => (afterD m F pre).marked) (by unfold maxLen; omega) hK1 hK2 _) (fun _ => rfl)
    (fun pre V => RunI w F.code.length R bx f7 bp br W3.heap.size #[.slice m.ta m.ths.length m.tc, .slice m.fa m.funcs.length m.fc] #[.string F.name, .slice F.pa F.params.length F.pc, .int .i64 (R : Int), .int .i64 F.words, .slice F.ca F.code.length F.cc] (afterD m F pre) V ∧ GoodS m F (afterD m F pre)) (fun pre V h => h.1.marks (ms := fun pre => (afterD m F pre).marked) h.2 rfl)
    (fun o o' => ?start) (fun pre V o h => ⟨h.1.putObj b2 b3 b4 b5 o, h.2⟩)
    (fun k => { tmps := #[x0, x1, .pointer (some ⟨w.heap.size, 0, none⟩), x3, x4, x5, x6, .pointer (some ⟨f7, 0, none⟩), x8, .pointer (some ⟨bp, 0, none⟩), x10, .int .i64 (k : Int), x12, x13, x14, x15, x16, x17, x18, x19, x20, x21, x22, x23, x24, x25, x26, x27, x28, x29, x30, x31, x32, x33, x34, x35, x36, x37, x38, x39, x40, x41, x42, x43, x44, x45, x46, x47, x48, x49, x50, x51, x52, x53, x54, x55, x56, x57, x58, x59, x60, x61, x62, x63, x64, x65, x66, x67, x68, x69, x70, x71, x72, x73, x74, x75, x76, x77, x78, x79, x80, x81, x82, x83, x84, x85, x86, x87, x88, x89, x90, .func (.func 60) #[] #[.pointer (some ⟨br, 0, none⟩)], .int .i64 (k : Int), x93, x94, x95, x96, x97, x98, x99, x100, x101, x102, x103, x104, x105, x106, x107, x108, x109, x110, x111, x112, x113, x114, x115, x116, x117, x118, x119, x120, x121, x122, x123, x124, x125, x126, x127, x128, x129, x130, x131, x132, x133, x134, x135, x136, x137, x138, x139, x140, x141, x142], defers := [] }) ?assign ?body ?done)
  case start =>
    obtain ⟨L, hL⟩ := hS
    refine ⟨⟨⟨L, (hL.alloc o).alloc o', fun q => ?_, fun q => ?_⟩, below_alloc (below_alloc hB _) _, (M3.alloc _).alloc _, (A3.alloc _).alloc _, (F3.alloc _).alloc _, (P3.alloc _).alloc _, (I3.alloc _).alloc _⟩, hG⟩
    · have := hL.lt q; omega
    · have := hL.lt q; omega
  case assign =>
    intro l k W K hK
    gi_wp2
    exact hK
  case body =>
    rintro l pre k W ⟨hI, hg⟩ hlt hpre
    have hk : k < F.code.length := passes_mem K (hpre.subset (by simp))
    have hv : afterD m F (pre ++ [k]) = visitD m F (afterD m F pre) k := by rw [after_app]; rfl
    have hg2 := (visit_ok wm WF hg hk).1
    cases hm : (afterD m F pre).marked.getD k false
    · refine wpIn_mono (use_found (visitP0 (m := m) (F := F) (pre := pre) hI (by omega) hk hg.ok.lm hm) (by kernel_rfl)) (postM_mono fun V h => ?_)
      rw [hv]
      exact ⟨h, hg2⟩
    · refine wpIn_mono (use_found (visitP1 (pre := pre) wm hmay hkm hF hM hRR hI hk hg hm hlt) (by kernel_rfl)) (postM_mono fun V h => ?_)
      rw [hv]
      exact ⟨h, hg2⟩
  case done =>
    rintro W ⟨hI, hg⟩ hlt hd
    obtain ⟨L, hL, l1, l2⟩ := hI.st
    exact hQ W L _ ⟨K, hK1, hK2, rfl⟩ hL hI.bel hlt hI.pb hI.rb l1 hd
end Go.Proofs.YtddobhneplfddaaDoor

namespace Go.Proofs.YtddobhneplfddaaDoor
set_option maxRecDepth 100000
open Go.RowKit Go.Shelf
set_option linter.unusedSimpArgs false
set_option linter.unusedVariables false
attribute [local go_sem] Oper.semAt_some
set_option maxHeartbeats 8000000 in
theorem runP3 (m : ModD) (kf : Nat) (wm : m.Wf) (hmay : mayD m = ⟨0, 0, 0⟩) (hkm : kf < m.funcs.length) (hpn : (nthF m.funcs kf).pa = none → (nthF m.funcs kf).pc = 0) (w : World) (hm : ModOk w w.heap.size m) (ht : TabOk w) :
    Calls Tryd.prog 15 #[m.val, .int .i64 kf] w (RunOk w m kf) := by
  have hme : ((mayD m).e != 0) = false := by rw [hmay]; rfl
  have hr1 := (f_ok hmay hkm).regs
  have hn1 := (f_ok2 hmay hkm).2.1
  obtain ⟨fb, fo, hfa, hfb, u0, u1, u2, u3, u4⟩ := funcs_cells hm.funcs hkm
  have H := Lib.hid (And.intro hm ht)
  obtain ⟨F, hF⟩ : ∃ F, nthF m.funcs kf = F := ⟨_, rfl⟩
  have hps := (hm.each kf hkm).params
  rw [hF] at u0 u1 u2 u3 u4 hr1 hn1 hpn hps
  obtain ⟨R, hRR⟩ : ∃ R : Nat, F.regs = (R : Int) := ⟨F.regs.toNat, by omega⟩
  rw [hRR] at u2 hr1
  have hkf : ((kf : Nat) : Int) < (m.funcs.length : Int) := by omega
  have hk0 : decide (((kf : Nat) : Int) < 0) = false := by simp
  have hk1 : decide (m.funcs.length ≤ kf) = false := by simp; omega
  have hk2 : decide ((m.funcs.length : Int) ≤ (kf : Int)) = false := by simp; omega
  have HFF := Lib.hid hF
  have HMY := Lib.hid hmay
  have HFA := Lib.hid hfa
  have HRR := Lib.hid hRR
  have HPS := Lib.hid hps
  have HPN := Lib.hid hpn
  clear hF hmay hm ht hfa hRR hps hpn
  have hfe := fieldE
  refine (callsIn_wide (n := 9)).1 ?_
  refine callsIn_of_wp_marks Tryd.func15 rfl trivial ?_ rfl
  simp only [Tryd.ntmps15, List.size_toArray, List.length_cons, List.length_nil, Nat.reduceAdd, Nat.reduceSub, Array.replicate_succ, Array.replicate_zero, List.push_toArray, List.append_toArray, List.nil_append, List.cons_append]
  refine wpIn_wide.2 ?_
  go_wp2
  go_step3
  go_wp2_with fail
  go_at_call 26
  refine (mayP m _ wm (H.out.1.below (below_alloc (below_alloc (Below.refl _ _) _) _) (Nat.le_refl _) |>.more (by simp; omega)) ((H.out.2.alloc _).alloc _)).mono ?_
  rintro e w1 ⟨rfl, hb1⟩
  have B1 : Below w.heap.size w w1 := below_step (below_alloc (below_alloc (Below.refl _ _) _) _) hb1
  have M4 := (Whl.new1 w (.cells #[.slice m.ta m.ths.length m.tc, .slice m.fa m.funcs.length m.fc] 25) 39 #[.slice none 0 0, .slice none 0 0]).below' hb1
  have M2 := ((Whl.new w 25 #[.slice m.ta m.ths.length m.tc, .slice m.fa m.funcs.length m.fc]).alloc (.cells #[.slice none 0 0, .slice none 0 0] 39)).below' hb1
  have x0 := M2.cell 0
  have x1 := M2.cell 1
  have l2 := M2.lt
  have l4 := M4.lt
  rw [← B1.cell (p := ⟨fb, fo + kf * 5, none⟩) hfb] at u0
  rw [← B1.cell (p := ⟨fb, fo + kf * 5 + 1, none⟩) hfb] at u1
  rw [← B1.cell (p := ⟨fb, fo + kf * 5 + 2, none⟩) hfb] at u2
  rw [← B1.cell (p := ⟨fb, fo + kf * 5 + 3, none⟩) hfb] at u3
  rw [← B1.cell (p := ⟨fb, fo + kf * 5 + 4, none⟩) hfb] at u4
  have lf : fb < w1.heap.size := by omega
  simp only [List.getElem?_toArray, List.getElem?_cons_zero, List.getElem?_cons_succ] at x0 x1
  rw [HFA.out] at x1
  clear hb1
  go_wp2
  have Ba : Below w.heap.size w ((w1.alloc (.cells #[.int .i64 (mayD m).e, .int .i64 (mayD m).f, .int .i64 (mayD m).a] 53)).alloc (.cells #[.string F.name, .slice F.pa F.params.length F.pc, .int .i64 (R : Int), .int .i64 F.words, .slice F.ca F.code.length F.cc] 48)) := below_alloc (below_alloc B1 _) _
  have Fa := Whl.new1 w1 (.cells #[.int .i64 (mayD m).e, .int .i64 (mayD m).f, .int .i64 (mayD m).a] 53) 48 #[.string F.name, .slice F.pa F.params.length F.pc, .int .i64 (R : Int), .int .i64 F.words, .slice F.ca F.code.length F.cc]
  have M2a := (M2.alloc (.cells #[.int .i64 (mayD m).e, .int .i64 (mayD m).f, .int .i64 (mayD m).a] 53)).alloc (.cells #[.string F.name, .slice F.pa F.params.length F.pc, .int .i64 (R : Int), .int .i64 F.words, .slice F.ca F.code.length F.cc] 48)
  have M4a := (M4.alloc (.cells #[.int .i64 (mayD m).e, .int .i64 (mayD m).f, .int .i64 (mayD m).a] 53)).alloc (.cells #[.string F.name, .slice F.pa F.params.length F.pc, .int .i64 (R : Int), .int .i64 F.words, .slice F.ca F.code.length F.cc] 48)
  obtain ⟨wa, hwa⟩ : ∃ wa, ((w1.alloc (.cells #[.int .i64 (mayD m).e, .int .i64 (mayD m).f, .int .i64 (mayD m).a] 53)).alloc (.cells #[.string F.name, .slice F.pa F.params.length F.pc, .int .i64 (R : Int), .int .i64 F.words, .slice F.ca F.code.length F.cc] 48)) = wa := ⟨_, rfl⟩
  rw [hwa] at Ba Fa M2a M4a ⊢
  clear hwa x0 x1 u0 u1 u2 u3 u4 M2 M4 B1
  generalize hn : F.code.length = n at *
  have HNN := Lib.hid hn
  clear hn
  refine wp_only ?_
  refine use_wp (region8 (n := n) (w0 := wa) hn1.2 (fun _ _ _ _ h => h) ?_) (by kernel_rfl)
  intro b1 b3 b6 b8 bx bp W BW f1 f3 f6 f8 fx fp
  have L0 : LayR wa n R (w1.heap.size + 1) b1 b3 b6 b8 bx bp #[.string F.name, .slice F.pa F.params.length F.pc, .int .i64 (R : Int), .int .i64 F.words, .slice F.ca n F.cc] 0 (fun _ => 0) W :=
    ⟨BW, Fa.below' BW, f1, ⟨f3.1, by have := f3.2; rw [chs0]; exact this⟩, f6, f8, fx, fp, fun _ h => absurd h (by omega), fun _ h => absurd h (by omega), fun _ _ h => absurd h (by omega)⟩
  have hmk := mkIn (n := R) (by omega)
  clear BW f1 f3 f6 f8 fx fp
  simp only [onlyN]
  go_wp2
  go_loopw [54] (fun i V => ∃ (k : Nat) (ca : Nat → Nat), k ≤ n ∧ i = .int .i64 k ∧ LayR wa n R (w1.heap.size + 1) b1 b3 b6 b8 bx bp #[.string F.name, .slice F.pa F.params.length F.pc, .int .i64 (R : Int), .int .i64 F.words, .slice F.ca n F.cc] k ca V) (fun i _ => n - (intOf i).toNat)
  case atStart => exact ⟨0, _, Nat.zero_le _, rfl, L0⟩
  case round =>
    obtain ⟨k, ca, hk, rfl, r2⟩ := hrel
    clear L0
    by_cases hlt : k < n
    · have hki : (k : Int) < (n : Int) := by omega
      have d0 := r2.pb.2.cell 0
      have d1 := r2.xb.2.cell 1
      have d2 := r2.fb.cell 2
      simp only [List.getElem?_toArray, List.getElem?_cons_zero, List.getElem?_cons_succ] at d0 d1 d2
      go_wp2
      refine wp_only ?_
      refine wp_region_held_drew (S := (fun (w' : World) => w'.cell? ⟨bp, 0, none⟩ = some (.pointer (some ⟨bx, 0, none⟩)) ∧ w'.cell? ⟨bx, 1, none⟩ = some (.slice (some ⟨b3, 0, none⟩) n n) ∧ w'.cell? ⟨w1.heap.size + 1, 2, none⟩ = some (.int .i64 (R : Int)))) (by kernel_rfl) ?_ (fun hHeld => ?_)
      · (exact ⟨d0, d1, d2⟩)
      refine wpAnyH_take (i := 0) (v := ?_) rfl (by kernel_rfl) (by kernel_rfl) (by kernel_rfl) (fun _ _ _ h => h) (Or.inl ⟨by rfl, ?_⟩) (by assumption) ?_
      rotate_left
      · (intro w' hSw; (try dsimp only at hSw); go_simp <;> with_reducible rfl)
      (try simp only [Act.put, List.setIfInBounds_toArray, List.set_cons_zero, List.set_cons_succ])
      refine wpAnyH_take (i := 1) (v := ?_) rfl (by kernel_rfl) (by kernel_rfl) (by kernel_rfl) (fun _ _ _ h => h) (Or.inl ⟨by rfl, ?_⟩) (by assumption) ?_
      rotate_left
      · (intro w' hSw; (try dsimp only at hSw); go_simp <;> with_reducible rfl)
      (try simp only [Act.put, List.setIfInBounds_toArray, List.set_cons_zero, List.set_cons_succ])
      refine wpAnyH_take (i := 2) (v := ?_) rfl (by kernel_rfl) (by kernel_rfl) (by kernel_rfl) (fun _ _ _ h => h) (Or.inl ⟨by rfl, ?_⟩) (by assumption) ?_
      rotate_left
      · (intro w' hSw; (try dsimp only at hSw); go_simp <;> with_reducible rfl)
      (try simp only [Act.put, List.setIfInBounds_toArray, List.set_cons_zero, List.set_cons_succ])
      refine wpAnyH_take (i := 3) (v := ?_) rfl (by kernel_rfl) (by kernel_rfl) (by kernel_rfl) (fun _ _ _ h => h) (Or.inl ⟨by rfl, ?_⟩) (by assumption) ?_
      rotate_left
      · (intro w' hSw; (try dsimp only at hSw); go_simp <;> with_reducible rfl)
      (try simp only [Act.put, List.setIfInBounds_toArray, List.set_cons_zero, List.set_cons_succ])
      refine wpAnyH_take (i := 4) (v := ?_) rfl (by kernel_rfl) (by kernel_rfl) (by kernel_rfl) (fun _ _ _ h => h) (Or.inl ⟨by rfl, ?_⟩) (by assumption) ?_
      rotate_left
      · (intro w' hSw; (try dsimp only at hSw); go_simp <;> with_reducible rfl)
      (try simp only [Act.put, List.setIfInBounds_toArray, List.set_cons_zero, List.set_cons_succ])
      refine wpAnyH_take (i := 5) (v := ?_) rfl (by kernel_rfl) (by kernel_rfl) (by kernel_rfl) (fun _ _ _ h => h) (Or.inl ⟨by rfl, ?_⟩) (by assumption) ?_
      rotate_left
      · (intro w' hSw; (try dsimp only at hSw); go_simp <;> with_reducible rfl)
      (try simp only [Act.put, List.setIfInBounds_toArray, List.set_cons_zero, List.set_cons_succ])
      refine wpAnyH_take (i := 6) (v := ?_) rfl (by kernel_rfl) (by kernel_rfl) (by kernel_rfl) (fun _ _ _ h => h) (Or.inl ⟨by rfl, ?_⟩) (by assumption) ?_
      rotate_left
      · (intro w' hSw; (try dsimp only at hSw); go_simp <;> with_reducible rfl)
      (try simp only [Act.put, List.setIfInBounds_toArray, List.set_cons_zero, List.set_cons_succ])
      refine wpAnyH_take (i := 7) (v := ?_) rfl (by kernel_rfl) (by kernel_rfl) (by kernel_rfl) (fun _ _ _ h => h) (Or.inl ⟨by rfl, ?_⟩) (by assumption) ?_
      rotate_left
      · (intro w' hSw; (try dsimp only at hSw); go_simp <;> with_reducible rfl)
      (try simp only [Act.put, List.setIfInBounds_toArray, List.set_cons_zero, List.set_cons_succ])
      refine wpAnyH_ready (rs := [8]) (by kernel_rfl) (by simp) ?_
      refine AllReadyH.cons rfl (fun K hK => ?_) AllReadyH.nil
      go_simp
      refine hK.out _ _ ?_ (fun hHeld => ?_)
      · (exact ⟨((r2.pb.2.drew).alloc _).cell 0, ((r2.xb.2.drew).alloc _).cell 1, ((r2.fb.drew).alloc _).cell 2⟩)
      clear hK K
      (try simp only [Act.put, List.setIfInBounds_toArray, List.set_cons_zero, List.set_cons_succ])
      have r3 := r2.step hlt
      have z3 := (r2.chb.2.alloc (.cells (madeCells #[.int .i64 0] R) 3)).frozen k
      have y3 := (r2.chb.2.alloc (.cells (madeCells #[.int .i64 0] R) 3)).cell k
      simp [chsV, hlt] at y3
      refine wpAnyH_take (i := 9) (v := ?_) rfl (by kernel_rfl) (by kernel_rfl) (by kernel_rfl) (fun _ _ _ h => h) (Or.inl ⟨by rfl, ?_⟩) (by assumption) ?_
      rotate_left
      · (intro w' hSw; (try dsimp only at hSw); go_simp <;> with_reducible rfl)
      (try simp only [Act.put, List.setIfInBounds_toArray, List.set_cons_zero, List.set_cons_succ])
      refine wpAnyH_ready (rs := [10]) (by kernel_rfl) (by simp) ?_
      refine AllReadyH.cons rfl (fun K hK => ?_) AllReadyH.nil
      go_simp
      refine hK.out _ _ ?_ (fun hHeld => ?_)
      · (exact ⟨r3.pb.2.cell 0, r3.xb.2.cell 1, r3.fb.cell 2⟩)
      clear hK K
      (try simp only [Act.put, List.setIfInBounds_toArray, List.set_cons_zero, List.set_cons_succ])
      refine wpAnyH_done (by kernel_rfl) ?_ _
      simp only [onlyN]
      go_wp2
      go_roundw
      case rel => exact ⟨k + 1, _, by omega, by go_num, r3⟩
      case measure => simp [intOf]; omega
    · have hkn : k = n := by omega
      subst hkn
      clear hlt hk
      go_wp2
      have hnil : F.pa = none → F.pc = 0 ∧ F.params = [] := fun e => ⟨HPN.out e, by
        cases hl : F.params with
        | nil => rfl
        | cons a b =>
          obtain ⟨_, _, e2, _⟩ := HPS.out (by rw [hl]; simp)
          rw [e] at e2; cases e2⟩
      refine wp_only ?_
      refine use_wp (region14 (n := k) (R := R) (l := F.params) (fun _ _ _ _ h => h) (by omega) (by omega) (by omega) (by omega) (by omega) (by omega) hnil ((HPS.out.below (Ba.trans (r2.bel.mono Ba.size)) (Nat.le_refl _)).more (Nat.le_trans Ba.size r2.bel.size)) (r2.pb.2.cell 0) (r2.xb.2.cell 0) (r2.fb.cell 1) (r2.fb.cell 2) r2.pb.2.lt r2.xb.2.lt r2.fb.lt (whl_apart r2.pb.2 r2.ib.2 (by decide)) (whl_apart r2.xb.2 r2.ib.2 (by decide)) (whl_apart r2.fb r2.ib.2 (by decide)) r2.ib.2 (by rw [made1, List.getElem?_toArray, List.getElem?_replicate, if_pos (by omega)]) ?_) (by kernel_rfl)
      intro g cp W2 u68 u69 u70 u71 u72 u73 u74 u75 u76 u77 u78 u79 u80 u81 u82 u83 u84 hg hcR hcp hrow hB2
      simp only [onlyN]
      have n1 := whl_apart r2.pb.2 r2.ib.2 (by decide)
      have n2 := whl_apart r2.xb.2 r2.ib.2 (by decide)
      have n3 := whl_apart r2.mb.2 r2.ib.2 (by decide)
      have n4 := whl_apart r2.pb.2 r2.mb.2 (by decide)
      have P2 := (r2.pb.2.below' hB2).far (p := ⟨b1, 0, none⟩) n1 (.slice (some ⟨g, 0, none⟩) R cp)
      have X2 := (r2.xb.2.below' hB2).far (p := ⟨b1, 0, none⟩) n2 (.slice (some ⟨g, 0, none⟩) R cp)
      have K2 := (r2.mb.2.below' hB2).far (p := ⟨b1, 0, none⟩) n3 (.slice (some ⟨g, 0, none⟩) R cp)
      have d0 := P2.cell 0
      have d1 := X2.cell 2
      have d2 := K2.cell 0
      have d3 := K2.frozen 0
      rw [made1, List.getElem?_toArray, List.getElem?_replicate, if_pos (by omega)] at d2
      simp only [List.getElem?_toArray, List.getElem?_cons_zero, List.getElem?_cons_succ] at d0 d1
      have P3 := P2.far (p := ⟨b6, 0, none⟩) n4 (.bool true)
      have d4 := P3.cell 0
      simp only [List.getElem?_toArray, List.getElem?_cons_zero, List.getElem?_cons_succ] at d4
      have hk0' : (0 : Int) < (k : Int) := by omega
      have HS := Lib.hid (startP (B := w.heap.size) (F := F) r2 Ba.size (by omega) hB2 hg (by rw [beginD, HRR.out, Int.toNat_natCast]; exact hrow) hcR hcp HNN.out (by rw [HRR.out]; rfl))
      go_wp2
      go_step3
      go_wp2_with fail
      go_at_call 34
      refine (roundsF bx _).mono ?_
      rintro e w' ⟨rfl, rfl⟩
      go_wp2
      have fa1 : ∀ {q t cs}, Whl wa q t cs → t ≠ 26 → t ≠ 4 → Whl (((W2.setCell ⟨b1, 0, none⟩ (.slice (some ⟨g, 0, none⟩) R cp)).setCell ⟨b6, 0, none⟩ (.bool true)).alloc (.cells #[.pointer (some ⟨bx, 0, none⟩)] 66)) q t cs := fun hq h1 h2 => by
        have hv := hq.below' r2.bel
        exact (((hv.below' hB2).far (p := ⟨b1, 0, none⟩) (whl_apart hv r2.ib.2 h1) _).far (p := ⟨b6, 0, none⟩) (whl_apart hv r2.mb.2 h2) _).alloc _
      have M5 := fa1 M2a (by decide) (by decide)
      have A5 := fa1 M4a (by decide) (by decide)
      have F5 := fa1 Fa (by decide) (by decide)
      have P5 := P3.alloc (.cells #[.pointer (some ⟨bx, 0, none⟩)] 66)
      have I5 := Whl.new ((W2.setCell ⟨b1, 0, none⟩ (.slice (some ⟨g, 0, none⟩) R cp)).setCell ⟨b6, 0, none⟩ (.bool true)) 66 #[.pointer (some ⟨bx, 0, none⟩)]
      rw [show ((W2.setCell ⟨b1, 0, none⟩ (.slice (some ⟨g, 0, none⟩) R cp)).setCell ⟨b6, 0, none⟩ (.bool true)).heap.size = W2.heap.size by simp] at I5
      have B5 : Below w.heap.size w (((W2.setCell ⟨b1, 0, none⟩ (.slice (some ⟨g, 0, none⟩) R cp)).setCell ⟨b6, 0, none⟩ (.bool true)).alloc (.cells #[.pointer (some ⟨bx, 0, none⟩)] 66)) :=
        below_alloc ((((Ba.trans (r2.bel.mono Ba.size)).trans (hB2.mono (Nat.le_trans Ba.size r2.bel.size))).setCell (p := ⟨b1, 0, none⟩) (Nat.le_trans Ba.size r2.ib.1) _).setCell (p := ⟨b6, 0, none⟩) (Nat.le_trans Ba.size r2.mb.1) _) _
      have HS5 := HS.out.alloc (.cells #[.pointer (some ⟨bx, 0, none⟩)] 66)
      obtain rfl := HNN.out
      have hgd : GoodS m F (startD F) := by have := start_good wm HMY.out hkm; rw [HFF.out] at this; exact this
      obtain ⟨W3, hW3⟩ : ∃ W3, (((W2.setCell ⟨b1, 0, none⟩ (.slice (some ⟨g, 0, none⟩) R cp)).setCell ⟨b6, 0, none⟩ (.bool true)).alloc (.cells #[.pointer (some ⟨bx, 0, none⟩)] 66)) = W3 := ⟨_, rfl⟩
      rw [hW3] at M5 A5 F5 P5 I5 B5 HS5
      have HM5 := H.out.1
      clear fa1
      rw [hW3]
      refine use_wp (rangeP wm HMY.out hkm HFF.out HM5 HRR.out ⟨_, HS5⟩ hgd B5 M5 A5 F5 P5 I5 ?_) (by kernel_rfl)
      intro W6 L6 s6 hf6 hS6 hB6 hsz6 hP6 hA6 hnb6 hd6
      have c0 := hP6.cell 0
      have c1 := hS6.c0
      have c2 := hS6.c1
      have a0 := hA6.frozen 0
      have a1 := hA6.frozen 1
      have a2 := hA6.cell 0
      have a3 := hA6.cell 1
      have lA := hA6.lt
      simp only [List.getElem?_toArray, List.getElem?_cons_zero, List.getElem?_cons_succ] at c0 a2 a3
      have HS6 := Lib.hid hS6
      have HD6 := Lib.hid hd6
      have HN6 := Lib.hid hnb6
      have HF6 := Lib.hid hf6
      clear hS6 hd6 hnb6 hf6
      clear d0 d1 d2 d3 d4 n1 n2 n3 n4 hW3
      go_wp2
      have o1 : ∀ k, k ≠ w.heap.size + 1 → k ≠ W3.heap.size → (((W6.setCell ⟨w.heap.size + 1, 0, none⟩ (.slice (some ⟨L6.inb, 0, none⟩) F.code.length F.code.length)).setCell ⟨w.heap.size + 1, 1, none⟩ (.slice (some ⟨L6.chb, 0, none⟩) F.code.length F.code.length)).putObj W3.heap.size (.deferred none)).heap[k]? = W6.heap[k]? := fun k h1 h2 =>
        (World.putObj_heap_other h2).trans ((Below.heap_setCell _ _ _ k h1).trans (Below.heap_setCell _ _ _ k h1))
      have l5 := A5.lt
      have hK7 : ((W6.setCell ⟨w.heap.size + 1, 0, none⟩ (.slice (some ⟨L6.inb, 0, none⟩) F.code.length F.code.length)).setCell ⟨w.heap.size + 1, 1, none⟩ (.slice (some ⟨L6.chb, 0, none⟩) F.code.length F.code.length)).heap[W3.heap.size]? = some (.deferred (some [])) :=
        ((Below.heap_setCell _ _ _ W3.heap.size (by simp; omega)).trans (Below.heap_setCell _ _ _ W3.heap.size (by simp; omega))).trans HD6.out
      refine ⟨by simp, .inl ⟨_, _, rfl, run_takeDeferred hK7, ?_⟩⟩
      refine ⟨.tuple #[.agg #[.slice (some ⟨L6.inb, 0, none⟩) F.code.length F.code.length, .slice (some ⟨L6.chb, 0, none⟩) F.code.length F.code.length], .int .i64 0], ?_, ?_⟩
      · have e0 : (((W6.setCell ⟨w.heap.size + 1, 0, none⟩ (.slice (some ⟨L6.inb, 0, none⟩) F.code.length F.code.length)).setCell ⟨w.heap.size + 1, 1, none⟩ (.slice (some ⟨L6.chb, 0, none⟩) F.code.length F.code.length)).putObj W3.heap.size (.deferred none)).cell? ⟨w.heap.size + 1, 0, none⟩ = some (.slice (some ⟨L6.inb, 0, none⟩) F.code.length F.code.length) := by
          have := ((hA6.put 0 (.slice (some ⟨L6.inb, 0, none⟩) F.code.length F.code.length)).put 1 (.slice (some ⟨L6.chb, 0, none⟩) F.code.length F.code.length))
          have h2 : Whl (((W6.setCell ⟨w.heap.size + 1, 0, none⟩ (.slice (some ⟨L6.inb, 0, none⟩) F.code.length F.code.length)).setCell ⟨w.heap.size + 1, 1, none⟩ (.slice (some ⟨L6.chb, 0, none⟩) F.code.length F.code.length)).putObj W3.heap.size (.deferred none)) _ _ _ := (World.putObj_heap_other (by omega)).trans this
          have := h2.cell 0
          simpa using this
        have e1 : (((W6.setCell ⟨w.heap.size + 1, 0, none⟩ (.slice (some ⟨L6.inb, 0, none⟩) F.code.length F.code.length)).setCell ⟨w.heap.size + 1, 1, none⟩ (.slice (some ⟨L6.chb, 0, none⟩) F.code.length F.code.length)).putObj W3.heap.size (.deferred none)).cell? ⟨w.heap.size + 1, 1, none⟩ = some (.slice (some ⟨L6.chb, 0, none⟩) F.code.length F.code.length) := by
          have := ((hA6.put 0 (.slice (some ⟨L6.inb, 0, none⟩) F.code.length F.code.length)).put 1 (.slice (some ⟨L6.chb, 0, none⟩) F.code.length F.code.length))
          have h2 : Whl (((W6.setCell ⟨w.heap.size + 1, 0, none⟩ (.slice (some ⟨L6.inb, 0, none⟩) F.code.length F.code.length)).setCell ⟨w.heap.size + 1, 1, none⟩ (.slice (some ⟨L6.chb, 0, none⟩) F.code.length F.code.length)).putObj W3.heap.size (.deferred none)) _ _ _ := (World.putObj_heap_other (by omega)).trans this
          have := h2.cell 1
          simpa using this
        simp [results, Tryd.f15, go_sem, e0, e1]
      · have hS7 := HS6.out.keep (W' := ((W6.setCell ⟨w.heap.size + 1, 0, none⟩ (.slice (some ⟨L6.inb, 0, none⟩) F.code.length F.code.length)).setCell ⟨w.heap.size + 1, 1, none⟩ (.slice (some ⟨L6.chb, 0, none⟩) F.code.length F.code.length)).putObj W3.heap.size (.deferred none)) (fun q hq => o1 q (fun e => whl_out HS6.out hA6 (by decide) (by decide) (by decide) (by decide) (by decide) (by decide) (e ▸ hq)) (fun e => HN6.out (e ▸ hq)))
        refine ⟨below_putObj ((hB6.setCell (p := ⟨w.heap.size + 1, 0, none⟩) (by simp) _).setCell (p := ⟨w.heap.size + 1, 1, none⟩) (by simp) _) (by omega) _, .inr (.inr ⟨by rw [HMY.out], kf, rfl, hkm, ?_⟩)⟩
        rw [HFF.out]
        refine ⟨L6, bx, s6, HF6.out, rfl, ?_⟩
        rw [HRR.out, Int.toNat_natCast]
        exact hS7
end Go.Proofs.YtddobhneplfddaaDoor

namespace Go.Proofs.YtddobhneplfddaaDoor
set_option maxRecDepth 100000
open Go.RowKit
set_option linter.unusedSimpArgs false
set_option linter.unusedVariables false
theorem runP (m : ModD) (fn : Int) (wm : m.Wf) (nm : m.Nils) (w : World) (hm : ModOk w w.heap.size m) (ht : TabOk w) :
    Calls Tryd.prog 15 #[m.val, .int .i64 fn] w (RunOk w m fn) := by
  cases h : ((mayD m).e != 0)
  · have hmay : mayD m = ⟨0, 0, 0⟩ := may_e (by simpa using h)
    by_cases hf : fn < 0 ∨ (m.funcs.length : Int) ≤ fn
    · exact runP2 m fn wm h hf w hm ht
    · obtain ⟨kf, rfl, hkf⟩ := nat_of (show 0 ≤ fn ∧ fn < (m.funcs.length : Int) by omega)
      exact runP3 m kf wm hmay (by omega) ((nm.each (nthF m.funcs kf) (nthF_mem (by omega))).p) w hm ht
  · exact runP1 m fn wm h w hm ht
/-- What stands at last is in order, and closed. -/
theorem Final.good {m : ModD} (wm : m.Wf) (hmay : mayD m = ⟨0, 0, 0⟩) {kf : Nat} (hk : kf < m.funcs.length) {s : StD} (h : Final m (nthF m.funcs kf) s) : GoodS m (nthF m.funcs kf) s ∧ ClosI m (nthF m.funcs kf) s ∧ ∀ i, i < (nthF m.funcs kf).code.length → s.marked.getD i false = false := by
  have hg := start_good wm hmay hk
  have wf := wm.funcs _ (nthF_mem hk)
  obtain ⟨K, h1, h2, h3⟩ := stops wm wf hg
  have e : s = afterD m (nthF m.funcs kf) (passes (nthF m.funcs kf).code.length K) := Final.only h ⟨K, h1, h2, rfl⟩
  have g := h3 _ (List.prefix_refl _)
  rw [← e] at g h2
  refine ⟨g, e ▸ final_closed wm wf (by have := (f_ok2 hmay hk).2.1; omega) hg K, fun i hi => ?_⟩
  cases hm : s.marked.getD i false
  · rfl
  · exact absurd ((marked_iff g).2 ⟨i, hi, hm⟩) h2
end Go.Proofs.YtddobhneplfddaaDoor
