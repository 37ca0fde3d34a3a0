/-
  Layer 2 (tree): the walk of Nodes, and of ContainsFunc over cases.
-/
import Derived.Test.YtdddppmfeoebgaaGreatDoorCntC
namespace Go.Proofs.YtdddppmfeoebgaaGreatDoor
open Go.RowKit
set_option linter.unusedSimpArgs false
set_option linter.unusedVariables false
abbrev prV (p : PrD) (wa fa : Option Addr) (wc fc : Nat) : Value := .agg #[.slice wa p.widen.length wc, .slice fa p.funcs.length fc]
abbrev prC (p : PrD) (wa fa : Option Addr) (wc fc : Nat) : Array Value := #[.slice wa p.widen.length wc, .slice fa p.funcs.length fc]
def RowF (w : World) (A : Option Addr) (l : List FnD) (hd : Nat → HdF) (k : Nat) : Prop :=
  ∃ b off, A = some ⟨b, off, none⟩ ∧ w.cell? ⟨b, off + k * 3, none⟩ = some (.string (nthF l k).name) ∧ w.cell? ⟨b, off + k * 3 + 1, none⟩ = some (.slice (hd k).params.a (nthF l k).params.length (hd k).params.c) ∧
      w.cell? ⟨b, off + k * 3 + 2, none⟩ = some (.slice (hd k).body.a (nthF l k).body.length (hd k).body.c)
theorem RowsAt.fn {w : World} {B : Nat} {A : Option Addr} {l : List FnD} {hd : Nat → HdF} (rows : RowsAt w B A l.length 3 fun k => fnV (nthF l k) (hd k)) {k : Nat} (hk : k < l.length) : RowF w A l hd k := by
  obtain ⟨b, off, e, hb, hc⟩ := rows (by omega)
  exact ⟨b, off, e, hc k hk 0 (by omega), hc k hk 1 (by omega), hc k hk 2 (by omega)⟩
theorem FnsAt.open_ {w : World} {B : Nat} {A : Option Addr} {l : List FnD} (h : FnsAt w B A l) :
    ∃ hd : Nat → HdF, (∀ W, Below B w W → ∀ k, k < l.length → RowF W A l hd k) ∧ (∀ k, k < l.length → FnOk w B (nthF l k) (hd k)) ∧ l.length * 64 ≤ 140737488351232 := by
  obtain @⟨hd, len, rows, each⟩ := h
  exact ⟨hd, fun W hW k hk => (rows.below hW (Nat.le_refl _)).fn hk, each, len⟩
set_option maxHeartbeats 2000000 in
theorem nodesP (p : PrD) (wa fa : Option Addr) (wc fc B : Nat) (w : World) (hB : B ≤ w.heap.size) (hp : PrOk w B p wa fa) :
    Calls Tryz.prog 8 #[prV p wa fa wc fc] w fun e w' => e = .returned (.int .i64 (nodesD p)) ∧ Below w.heap.size w w' := by
  obtain ⟨hd, rows, each, len⟩ := hp.funcs.open_
  have HR := Lib.hid rows
  have HE := Lib.hid each
  clear rows each hp
  go_enter Tryz.func8, Tryz.ntmps8
  go_wp2
  go_loopw [9] (fun i W => ∃ k m : Nat, k ≤ p.funcs.length ∧ i = .int .i64 k ∧ Hid (min (0 + cntFs (p.funcs.take k)) 4097 = m) ∧ Whl W (w.heap.size + 1) 72 #[.int .i64 (m : Int)] ∧ Turn w.heap.size (w.heap.size + 1) w W) (fun i _ => p.funcs.length - (intOf i).toNat)
  case atStart => exact ⟨0, 0, Nat.zero_le _, rfl, Lib.hid (by simp [cntFs]), Whl.newAt (by simp) _ _, ((Turn.refl _ _ _).alloc (Nat.le_refl _) _).alloc (Nat.le_refl _) _⟩
  case round =>
    obtain ⟨k, m, hk, rfl, HQ, hgk, hgr⟩ := hrel
    have l1 := hgr.size
    have lk := hgk.lt
    have f0 : wr.cell? ⟨w.heap.size + 1, 0, none⟩ = some (.int .i64 (m : Int)) := hgk.cell 0
    by_cases hlt : k < p.funcs.length
    · have hsn := Lib.hid (cntFs_snoc hlt)
      obtain ⟨b, off, rfl, c0, c1, c2⟩ := HR.out wr (hgr.below.mono hB) k hlt
      have hk2 := Lib.hid (((HE.out k hlt).body.keep (hgr.below.mono hB) (Nat.le_refl _)).more hB)
      have hm : m ≤ 4097 := by have := HQ.out; omega
      go_wp2_with (go_at_call 24; go_must (refine (cstmtsP _ _ _ m w.heap.size (w.heap.size + 1) _ _ (hk2.out.turn ((Turn.refl _ (w.heap.size + 1) _).alloc l1 _)) (by omega) hm rfl (hgk.alloc _)).mono ?_; rintro e w1 ⟨rfl, hg1, hr1⟩))
      go_roundw
      case rel => exact ⟨k + 1, _, by omega, by go_num, Lib.hid (by have := hsn.out; have := HQ.out; omega), hg1, (hgr.alloc (Nat.le_refl _) _).trans hr1⟩
      case measure => simp [intOf]; omega
    · obtain rfl : k = p.funcs.length := by omega
      have hm : m ≤ 4097 := by have := HQ.out; omega
      go_wp2
      refine ret_of ?_ rfl
      refine ⟨_, by simp [results, Tryz.results8, go_sem]; rfl, ?_, hgr.below⟩
      have he := HQ.out
      rw [List.take_length] at he
      rw [show nodesD p = m from (by unfold nodesD; omega)]
/-! ### ContainsFunc over cases -/
theorem own1P (x : CaD) (h : Hd) (w : World) : Calls Tryz.prog 68 #[.agg (caC x h)] w fun e w' => e = .returned (.bool (x.n == least)) ∧ Below w.heap.size w w' := by
  unfold least
  go_enter Tryz.func68, Tryz.ntmps68
  go_wp2
  go_ret
  exact ⟨rfl, (Below.refl _ _).alloc (Nat.le_refl _) _⟩
def IdxPost (l : List CaD) (w : World) (e : Ending) (w' : World) : Prop := ∃ z : Int, e = .returned (.int .i64 z) ∧ decide (0 ≤ z) = lowestD l ∧ Below w.heap.size w w'
theorem low_take {l : List CaD} {k : Nat} (h : k < l.length) : lowestD (l.take (k + 1)) = (lowestD (l.take k) || (nthC l k).n == least) := by
  unfold lowestD nthC
  rw [take_snoc CaD.zero h, List.any_append]; simp
theorem low_cut (l : List CaD) (k : Nat) : lowestD l = (lowestD (l.take k) || lowestD (l.drop k)) := by
  unfold lowestD
  rw [← List.any_append, List.take_append_drop]
set_option maxHeartbeats 1000000 in
theorem idxFuncP (l : List CaD) (A : Option Addr) (c B : Nat) (hd : Nat → Hd) (w : World) (len : l.length * 32 ≤ 140737488351232) (hB : B ≤ w.heap.size) (rows : RowsAt w B A l.length 2 fun k => caV (nthC l k) (hd k)) :
    Calls Tryz.prog 93 #[.slice A l.length c, .func (.func 68) #[] #[]] w (IdxPost l w) := by
  have HR := Lib.hid rows
  clear rows
  go_enter Tryz.func93, Tryz.ntmps93
  go_wp2
  go_loopw [8] (fun i W => ∃ k : Nat, k ≤ l.length ∧ i = .int .i64 k ∧ Hid (lowestD (l.take k) = false) ∧ Below w.heap.size w W) (fun i _ => l.length - (intOf i).toNat)
  case atStart => exact ⟨0, Nat.zero_le _, rfl, Lib.hid (by simp [lowestD]), Below.refl _ _⟩
  case round =>
    obtain ⟨k, hk, rfl, HQ, hgr⟩ := hrel
    have l1 := hgr.size
    by_cases hlt : k < l.length
    · have hsn := Lib.hid (low_take hlt)
      obtain ⟨b, off, rfl, c0, c1⟩ := (HR.out.below hgr hB).ca hlt
      cases hx : ((nthC l k).n == least)
      · go_wp2_with (go_at_call 68; go_must (refine (own1P _ (hd k) _).mono ?_; rintro e w1 ⟨rfl, hb1⟩))
        go_roundw
        case rel => exact ⟨k + 1, by omega, by go_num, Lib.hid (by rw [hsn.out, HQ.out, hx]; rfl), below_step hgr hb1⟩
        case measure => simp [intOf]; omega
      · have HX := Lib.hid hx
        go_wp2_with (go_at_call 68; go_must (refine (own1P _ (hd k) _).mono ?_; rintro e w1 ⟨rfl, hb1⟩))
        go_ret
        exact ⟨_, rfl, by rw [low_cut l (k + 1), hsn.out, HX.out]; simp, below_step hgr hb1⟩
    · obtain rfl : k = l.length := by omega
      go_wp2
      go_ret
      exact ⟨_, rfl, by have := HQ.out; rw [List.take_length] at this; rw [this]; rfl, hgr⟩
theorem containsP (l : List CaD) (A : Option Addr) (c B : Nat) (hd : Nat → Hd) (w : World) (len : l.length * 32 ≤ 140737488351232) (hB : B ≤ w.heap.size) (rows : RowsAt w B A l.length 2 fun k => caV (nthC l k) (hd k)) :
    Calls Tryz.prog 67 #[.slice A l.length c, .func (.func 68) #[] #[]] w fun e w' => e = .returned (.bool (lowestD l)) ∧ Below w.heap.size w w' := by
  have HR := Lib.hid rows
  clear rows
  go_enter Tryz.func67, Tryz.ntmps67
  go_wp2_with (go_at_call 93; go_must (refine (idxFuncP l A c B hd _ len hB HR.out).mono ?_; rintro e w1 ⟨z, rfl, hz, hb1⟩))
  go_ret
  exact ⟨by rw [← hz]; rfl, hb1⟩
end Go.Proofs.YtdddppmfeoebgaaGreatDoor
