/-
  Layer 2 (tree): the walks of Same, sameExpr, sameStmts, and of EqualFunc and Equal of the library.
-/
import Derived.Test.YtdddppmfeoebgaaGreatDoorHeadP
import Derived.Test.YtdddppmfeoebgaaGreatDoorTreeP
import Derived.Deep.QuietTactic
import Derived.BigQuiet
import Derived.Laws.StructEq
namespace Go.Proofs.YtdddppmfeoebgaaGreatDoor
open Go.RowKit
set_option linter.unusedSimpArgs false
set_option linter.unusedVariables false
/-- The first n are so. -/
def eqAll (f : Nat → Bool) : Nat → Bool
  | 0 => true
  | n + 1 => eqAll f n && f n
theorem eqAll_no {f : Nat → Bool} : ∀ {n k : Nat}, k < n → f k = false → eqAll f n = false
  | n + 1, k, h, hf => by
    rw [eqAll]
    by_cases e : k = n
    · subst e; rw [hf, Bool.and_false]
    · rw [eqAll_no (n := n) (k := k) (by omega) hf, Bool.false_and]
theorem eqAll_front (f : Nat → Bool) : ∀ n, eqAll f (n + 1) = (f 0 && eqAll (fun k => f (k + 1)) n)
  | 0 => by simp [eqAll]
  | n + 1 => by rw [eqAll, eqAll_front f n]; simp only [eqAll, Bool.and_assoc]
theorem eqAll_cong {f g : Nat → Bool} : ∀ {n : Nat}, (∀ k, k < n → f k = g k) → eqAll f n = eqAll g n
  | 0, _ => rfl
  | n + 1, h => by rw [eqAll, eqAll, eqAll_cong (n := n) (fun k hk => h k (by omega)), h n (by omega)]
theorem sameEs_all : ∀ l m : List ExD, sameEs l m = (decide (l.length = m.length) && eqAll (fun k => sameE (nthE l k) (nthE m k)) l.length)
  | [], [] => by simp [sameEs, eqAll]
  | [], y :: t => by simp [sameEs]
  | x :: r, [] => by simp [sameEs]
  | x :: r, y :: t => by rw [sameEs, sameEs_all r t, List.length_cons, List.length_cons, eqAll_front]; simp only [nthE, List.getD_cons_zero, List.getD_cons_succ, Nat.add_right_cancel_iff]; rw [Bool.and_left_comm]
theorem sameSs_all : ∀ l m : List StD, sameSs l m = (decide (l.length = m.length) && eqAll (fun k => sameS (nthS l k) (nthS m k)) l.length)
  | [], [] => by simp [sameSs, eqAll]
  | [], y :: t => by simp [sameSs]
  | x :: r, [] => by simp [sameSs]
  | x :: r, y :: t => by rw [sameSs, sameSs_all r t, List.length_cons, List.length_cons, eqAll_front]; simp only [nthS, List.getD_cons_zero, List.getD_cons_succ, Nat.add_right_cancel_iff]; rw [Bool.and_left_comm]
theorem sameCs_all : ∀ l m : List CaD, sameCs l m = (decide (l.length = m.length) && eqAll (fun k => sameC (nthC l k) (nthC m k)) l.length)
  | [], [] => by simp [sameCs, eqAll]
  | [], y :: t => by simp [sameCs]
  | x :: r, [] => by simp [sameCs]
  | x :: r, y :: t => by rw [sameCs, sameCs_all r t, List.length_cons, List.length_cons, eqAll_front]; simp only [nthC, List.getD_cons_zero, List.getD_cons_succ, Nat.add_right_cancel_iff]; rw [Bool.and_left_comm]
theorem samePas_all : ∀ l m : List PaD, samePas l m = (decide (l.length = m.length) && eqAll (fun k => samePa (nthP l k) (nthP m k)) l.length)
  | [], [] => by simp [samePas, eqAll]
  | [], y :: t => by simp [samePas]
  | x :: r, [] => by simp [samePas]
  | x :: r, y :: t => by rw [samePas, samePas_all r t, List.length_cons, List.length_cons, eqAll_front]; simp only [nthP, List.getD_cons_zero, List.getD_cons_succ, Nat.add_right_cancel_iff]; rw [Bool.and_left_comm]
theorem sameFns_all : ∀ l m : List FnD, sameFns l m = (decide (l.length = m.length) && eqAll (fun k => sameFn (nthF l k) (nthF m k)) l.length)
  | [], [] => by simp [sameFns, eqAll]
  | [], y :: t => by simp [sameFns]
  | x :: r, [] => by simp [sameFns]
  | x :: r, y :: t => by rw [sameFns, sameFns_all r t, List.length_cons, List.length_cons, eqAll_front]; simp only [nthF, List.getD_cons_zero, List.getD_cons_succ, Nat.add_right_cancel_iff]; rw [Bool.and_left_comm]
def sameIs (l m : List Int) : Bool := decide (l.length = m.length) && eqAll (fun k => nthI l k == nthI m k) l.length
theorem sameIs_eq : ∀ l m : List Int, sameIs l m = (l == m)
  | [], [] => by simp [sameIs, eqAll]
  | [], y :: t => by simp [sameIs]
  | x :: r, [] => by simp [sameIs]
  | x :: r, y :: t => by
    have h := sameIs_eq r t
    rw [sameIs] at h ⊢
    rw [List.length_cons, List.length_cons, eqAll_front]
    simp only [nthI, List.getD_cons_zero, List.getD_cons_succ, Nat.add_right_cancel_iff] at h ⊢
    rw [Bool.and_left_comm, h]; rfl

theorem sameEs_len {l m : List ExD} (h : l.length ≠ m.length) : sameEs l m = false := by rw [sameEs_all l m]; simp [h]
theorem sameEs_at {l m : List ExD} {k : Nat} (hk : k < l.length) (h : sameE (nthE l k) (nthE m k) = false) : sameEs l m = false := by rw [sameEs_all l m]; rw [eqAll_no hk h, Bool.and_false]
theorem sameEs_yes {l m : List ExD} (e : l.length = m.length) (h : eqAll (fun k => sameE (nthE l k) (nthE m k)) l.length = true) : sameEs l m = true := by rw [sameEs_all l m]; rw [h]; simp [e]
set_option maxRecDepth 100000 in
set_option maxHeartbeats 4000000 in
/-- EqualFunc over Expr. -/
theorem eqfE (l m : List ExD) (A A2 : Option Addr) (c cc B : Nat) (hd hd2 : Nat → Hd) (w : World) (len : l.length * 56 ≤ 140737488351232) (len2 : m.length * 56 ≤ 140737488351232) (hB : B ≤ w.heap.size)
    (rows : RowsAt w B A l.length 4 fun k => exV (nthE l k) (hd k)) (rows2 : RowsAt w B A2 m.length 4 fun k => exV (nthE m k) (hd2 k))
    (call : ∀ k, k < l.length → k < m.length → ∀ W, Below w.heap.size w W → Calls Tryz.prog 49 #[.agg (exC (nthE l k) (hd k)), .agg (exC (nthE m k) (hd2 k))] W fun e W' => e = .returned (.bool (sameE (nthE l k) (nthE m k))) ∧ Below W.heap.size W W') :
    Calls Tryz.prog 70 #[.slice A l.length c, .slice A2 m.length cc, .func (.func 49) #[] #[]] w fun e w' => e = .returned (.bool (sameEs l m)) ∧ Below w.heap.size w w' := by
  have HR := Lib.hid rows
  have HR2 := Lib.hid rows2
  have HC := Lib.hid call
  clear rows rows2 call
  by_cases hl : l.length = m.length
  · have hn : ((l.length : Int) != (m.length : Int)) = false := by simp [hl]
    have HL := Lib.hid hl
    clear hl
    go_enter Tryz.func70, Tryz.ntmps70
    go_wp2
    go_loopw [17] (fun i W => ∃ k : Nat, k ≤ l.length ∧ i = .int .i64 k ∧ Hid (eqAll (fun k => sameE (nthE l k) (nthE m k)) k = true) ∧ Below w.heap.size w W) (fun i _ => l.length - (intOf i).toNat)
    case atStart => exact ⟨0, Nat.zero_le _, rfl, Lib.hid rfl, Below.refl _ _⟩
    case round =>
      obtain ⟨k, hk, rfl, HQ, hgr⟩ := hrel
      have l1 := hgr.size
      by_cases hlt : k < l.length
      · have hlt2 : k < m.length := by have := HL.out; omega
        obtain ⟨b, off, rfl, c0, c1, c2, c3⟩ := (HR.out.below hgr hB).ex hlt
        obtain ⟨b2, off2, rfl, d0, d1, d2, d3⟩ := (HR2.out.below hgr hB).ex hlt2
        have lb2 : b2 < wr.heap.size := World.block_lt_of_cell? _ _ d0
        clear hn
        cases hx : sameE (nthE l k) (nthE m k)
        · have HX := Lib.hid hx
          have HCC := Lib.hid (HC.out k hlt hlt2)
          rw [hx] at HCC
          clear hx
          go_wp2_with (go_at_call 49; go_must (refine (HCC.out _ (below_alloc (below_alloc hgr _) _)).mono ?_; rintro e w1 ⟨rfl, hb1⟩))
          go_ret
          exact ⟨by rw [sameEs_at hlt HX.out]; rfl, below_step (below_alloc (below_alloc hgr _) _) hb1⟩
        · have HX := Lib.hid hx
          have HCC := Lib.hid (HC.out k hlt hlt2)
          rw [hx] at HCC
          clear hx
          go_wp2_with (go_at_call 49; go_must (refine (HCC.out _ (below_alloc (below_alloc hgr _) _)).mono ?_; rintro e w1 ⟨rfl, hb1⟩))
          go_roundw
          case rel => exact ⟨k + 1, by omega, by go_num, Lib.hid (by rw [eqAll, HQ.out, HX.out]; rfl), below_step (below_alloc (below_alloc hgr _) _) hb1⟩
          case measure => simp [intOf]; omega
      · obtain rfl : k = l.length := by omega
        go_wp2
        go_ret
        exact ⟨by rw [sameEs_yes HL.out HQ.out]; rfl, hgr⟩
  · have hn : ((l.length : Int) != (m.length : Int)) = true := by simp; omega
    have HL := Lib.hid hl
    clear hl
    go_enter Tryz.func70, Tryz.ntmps70
    go_wp2
    go_ret
    exact ⟨by rw [sameEs_len HL.out]; rfl, Below.refl _ _⟩
theorem sameSs_len {l m : List StD} (h : l.length ≠ m.length) : sameSs l m = false := by rw [sameSs_all l m]; simp [h]
theorem sameSs_at {l m : List StD} {k : Nat} (hk : k < l.length) (h : sameS (nthS l k) (nthS m k) = false) : sameSs l m = false := by rw [sameSs_all l m]; rw [eqAll_no hk h, Bool.and_false]
theorem sameSs_yes {l m : List StD} (e : l.length = m.length) (h : eqAll (fun k => sameS (nthS l k) (nthS m k)) l.length = true) : sameSs l m = true := by rw [sameSs_all l m]; rw [h]; simp [e]
set_option maxRecDepth 100000 in
set_option maxHeartbeats 4000000 in
/-- EqualFunc over Stmt. -/
theorem eqfS (l m : List StD) (A A2 : Option Addr) (c cc B : Nat) (hd hd2 : Nat → HdS) (w : World) (len : l.length * 216 ≤ 140737488351232) (len2 : m.length * 216 ≤ 140737488351232) (hB : B ≤ w.heap.size)
    (rows : RowsAt w B A l.length 14 fun k => stV (nthS l k) (hd k)) (rows2 : RowsAt w B A2 m.length 14 fun k => stV (nthS m k) (hd2 k))
    (call : ∀ k, k < l.length → k < m.length → ∀ W, Below w.heap.size w W → Calls Tryz.prog 48 #[.agg (stC (nthS l k) (hd k)), .agg (stC (nthS m k) (hd2 k))] W fun e W' => e = .returned (.bool (sameS (nthS l k) (nthS m k))) ∧ Below W.heap.size W W') :
    Calls Tryz.prog 47 #[.slice A l.length c, .slice A2 m.length cc, .func (.func 48) #[] #[]] w fun e w' => e = .returned (.bool (sameSs l m)) ∧ Below w.heap.size w w' := by
  have HR := Lib.hid rows
  have HR2 := Lib.hid rows2
  have HC := Lib.hid call
  clear rows rows2 call
  by_cases hl : l.length = m.length
  · have hn : ((l.length : Int) != (m.length : Int)) = false := by simp [hl]
    have HL := Lib.hid hl
    clear hl
    go_enter Tryz.func47, Tryz.ntmps47
    go_wp2
    go_loopw [17] (fun i W => ∃ k : Nat, k ≤ l.length ∧ i = .int .i64 k ∧ Hid (eqAll (fun k => sameS (nthS l k) (nthS m k)) k = true) ∧ Below w.heap.size w W) (fun i _ => l.length - (intOf i).toNat)
    case atStart => exact ⟨0, Nat.zero_le _, rfl, Lib.hid rfl, Below.refl _ _⟩
    case round =>
      obtain ⟨k, hk, rfl, HQ, hgr⟩ := hrel
      have l1 := hgr.size
      by_cases hlt : k < l.length
      · have hlt2 : k < m.length := by have := HL.out; omega
        obtain ⟨b, off, rfl, c0, c1, c2, c3, c4, c5, c6, c7, c8, c9, c10, c11, c12, c13⟩ := (HR.out.below hgr hB).st hlt
        obtain ⟨b2, off2, rfl, d0, d1, d2, d3, d4, d5, d6, d7, d8, d9, d10, d11, d12, d13⟩ := (HR2.out.below hgr hB).st hlt2
        have lb2 : b2 < wr.heap.size := World.block_lt_of_cell? _ _ d0
        clear hn
        cases hx : sameS (nthS l k) (nthS m k)
        · have HX := Lib.hid hx
          have HCC := Lib.hid (HC.out k hlt hlt2)
          rw [hx] at HCC
          clear hx
          go_wp2_with (go_at_call 48; go_must (refine (HCC.out _ (below_alloc (below_alloc hgr _) _)).mono ?_; rintro e w1 ⟨rfl, hb1⟩))
          go_ret
          exact ⟨by rw [sameSs_at hlt HX.out]; rfl, below_step (below_alloc (below_alloc hgr _) _) hb1⟩
        · have HX := Lib.hid hx
          have HCC := Lib.hid (HC.out k hlt hlt2)
          rw [hx] at HCC
          clear hx
          go_wp2_with (go_at_call 48; go_must (refine (HCC.out _ (below_alloc (below_alloc hgr _) _)).mono ?_; rintro e w1 ⟨rfl, hb1⟩))
          go_roundw
          case rel => exact ⟨k + 1, by omega, by go_num, Lib.hid (by rw [eqAll, HQ.out, HX.out]; rfl), below_step (below_alloc (below_alloc hgr _) _) hb1⟩
          case measure => simp [intOf]; omega
      · obtain rfl : k = l.length := by omega
        go_wp2
        go_ret
        exact ⟨by rw [sameSs_yes HL.out HQ.out]; rfl, hgr⟩
  · have hn : ((l.length : Int) != (m.length : Int)) = true := by simp; omega
    have HL := Lib.hid hl
    clear hl
    go_enter Tryz.func47, Tryz.ntmps47
    go_wp2
    go_ret
    exact ⟨by rw [sameSs_len HL.out]; rfl, Below.refl _ _⟩
theorem sameCs_len {l m : List CaD} (h : l.length ≠ m.length) : sameCs l m = false := by rw [sameCs_all l m]; simp [h]
theorem sameCs_at {l m : List CaD} {k : Nat} (hk : k < l.length) (h : sameC (nthC l k) (nthC m k) = false) : sameCs l m = false := by rw [sameCs_all l m]; rw [eqAll_no hk h, Bool.and_false]
theorem sameCs_yes {l m : List CaD} (e : l.length = m.length) (h : eqAll (fun k => sameC (nthC l k) (nthC m k)) l.length = true) : sameCs l m = true := by rw [sameCs_all l m]; rw [h]; simp [e]
set_option maxRecDepth 100000 in
set_option maxHeartbeats 4000000 in
/-- EqualFunc over Case. -/
theorem eqfC (l m : List CaD) (A A2 : Option Addr) (c cc B : Nat) (hd hd2 : Nat → Hd) (w : World) (len : l.length * 32 ≤ 140737488351232) (len2 : m.length * 32 ≤ 140737488351232) (hB : B ≤ w.heap.size)
    (rows : RowsAt w B A l.length 2 fun k => caV (nthC l k) (hd k)) (rows2 : RowsAt w B A2 m.length 2 fun k => caV (nthC m k) (hd2 k))
    (call : ∀ k, k < l.length → k < m.length → ∀ W, Below w.heap.size w W → Calls Tryz.prog 51 #[.agg (caC (nthC l k) (hd k)), .agg (caC (nthC m k) (hd2 k))] W fun e W' => e = .returned (.bool (sameC (nthC l k) (nthC m k))) ∧ Below W.heap.size W W') :
    Calls Tryz.prog 50 #[.slice A l.length c, .slice A2 m.length cc, .func (.func 51) #[] #[]] w fun e w' => e = .returned (.bool (sameCs l m)) ∧ Below w.heap.size w w' := by
  have HR := Lib.hid rows
  have HR2 := Lib.hid rows2
  have HC := Lib.hid call
  clear rows rows2 call
  by_cases hl : l.length = m.length
  · have hn : ((l.length : Int) != (m.length : Int)) = false := by simp [hl]
    have HL := Lib.hid hl
    clear hl
    go_enter Tryz.func50, Tryz.ntmps50
    go_wp2
    go_loopw [17] (fun i W => ∃ k : Nat, k ≤ l.length ∧ i = .int .i64 k ∧ Hid (eqAll (fun k => sameC (nthC l k) (nthC m k)) k = true) ∧ Below w.heap.size w W) (fun i _ => l.length - (intOf i).toNat)
    case atStart => exact ⟨0, Nat.zero_le _, rfl, Lib.hid rfl, Below.refl _ _⟩
    case round =>
      obtain ⟨k, hk, rfl, HQ, hgr⟩ := hrel
      have l1 := hgr.size
      by_cases hlt : k < l.length
      · have hlt2 : k < m.length := by have := HL.out; omega
        obtain ⟨b, off, rfl, c0, c1⟩ := (HR.out.below hgr hB).ca hlt
        obtain ⟨b2, off2, rfl, d0, d1⟩ := (HR2.out.below hgr hB).ca hlt2
        have lb2 : b2 < wr.heap.size := World.block_lt_of_cell? _ _ d0
        clear hn
        cases hx : sameC (nthC l k) (nthC m k)
        · have HX := Lib.hid hx
          have HCC := Lib.hid (HC.out k hlt hlt2)
          rw [hx] at HCC
          clear hx
          go_wp2_with (go_at_call 51; go_must (refine (HCC.out _ (below_alloc (below_alloc hgr _) _)).mono ?_; rintro e w1 ⟨rfl, hb1⟩))
          go_ret
          exact ⟨by rw [sameCs_at hlt HX.out]; rfl, below_step (below_alloc (below_alloc hgr _) _) hb1⟩
        · have HX := Lib.hid hx
          have HCC := Lib.hid (HC.out k hlt hlt2)
          rw [hx] at HCC
          clear hx
          go_wp2_with (go_at_call 51; go_must (refine (HCC.out _ (below_alloc (below_alloc hgr _) _)).mono ?_; rintro e w1 ⟨rfl, hb1⟩))
          go_roundw
          case rel => exact ⟨k + 1, by omega, by go_num, Lib.hid (by rw [eqAll, HQ.out, HX.out]; rfl), below_step (below_alloc (below_alloc hgr _) _) hb1⟩
          case measure => simp [intOf]; omega
      · obtain rfl : k = l.length := by omega
        go_wp2
        go_ret
        exact ⟨by rw [sameCs_yes HL.out HQ.out]; rfl, hgr⟩
  · have hn : ((l.length : Int) != (m.length : Int)) = true := by simp; omega
    have HL := Lib.hid hl
    clear hl
    go_enter Tryz.func50, Tryz.ntmps50
    go_wp2
    go_ret
    exact ⟨by rw [sameCs_len HL.out]; rfl, Below.refl _ _⟩
theorem sameFns_len {l m : List FnD} (h : l.length ≠ m.length) : sameFns l m = false := by rw [sameFns_all l m]; simp [h]
theorem sameFns_at {l m : List FnD} {k : Nat} (hk : k < l.length) (h : sameFn (nthF l k) (nthF m k) = false) : sameFns l m = false := by rw [sameFns_all l m]; rw [eqAll_no hk h, Bool.and_false]
theorem sameFns_yes {l m : List FnD} (e : l.length = m.length) (h : eqAll (fun k => sameFn (nthF l k) (nthF m k)) l.length = true) : sameFns l m = true := by rw [sameFns_all l m]; rw [h]; simp [e]
set_option maxRecDepth 100000 in
set_option maxHeartbeats 4000000 in
/-- EqualFunc over Fn. -/
theorem eqfF (l m : List FnD) (A A2 : Option Addr) (c cc B : Nat) (hd hd2 : Nat → HdF) (w : World) (len : l.length * 64 ≤ 140737488351232) (len2 : m.length * 64 ≤ 140737488351232) (hB : B ≤ w.heap.size)
    (rows : RowsAt w B A l.length 3 fun k => fnV (nthF l k) (hd k)) (rows2 : RowsAt w B A2 m.length 3 fun k => fnV (nthF m k) (hd2 k))
    (call : ∀ k, k < l.length → k < m.length → ∀ W, Below w.heap.size w W → Calls Tryz.prog 27 #[.agg (fnC (nthF l k) (hd k)), .agg (fnC (nthF m k) (hd2 k))] W fun e W' => e = .returned (.bool (sameFn (nthF l k) (nthF m k))) ∧ Below W.heap.size W W') :
    Calls Tryz.prog 26 #[.slice A l.length c, .slice A2 m.length cc, .func (.func 27) #[] #[]] w fun e w' => e = .returned (.bool (sameFns l m)) ∧ Below w.heap.size w w' := by
  have HR := Lib.hid rows
  have HR2 := Lib.hid rows2
  have HC := Lib.hid call
  clear rows rows2 call
  by_cases hl : l.length = m.length
  · have hn : ((l.length : Int) != (m.length : Int)) = false := by simp [hl]
    have HL := Lib.hid hl
    clear hl
    go_enter Tryz.func26, Tryz.ntmps26
    go_wp2
    go_loopw [17] (fun i W => ∃ k : Nat, k ≤ l.length ∧ i = .int .i64 k ∧ Hid (eqAll (fun k => sameFn (nthF l k) (nthF m k)) k = true) ∧ Below w.heap.size w W) (fun i _ => l.length - (intOf i).toNat)
    case atStart => exact ⟨0, Nat.zero_le _, rfl, Lib.hid rfl, Below.refl _ _⟩
    case round =>
      obtain ⟨k, hk, rfl, HQ, hgr⟩ := hrel
      have l1 := hgr.size
      by_cases hlt : k < l.length
      · have hlt2 : k < m.length := by have := HL.out; omega
        obtain ⟨b, off, rfl, c0, c1, c2⟩ := (HR.out.below hgr hB).fn hlt
        obtain ⟨b2, off2, rfl, d0, d1, d2⟩ := (HR2.out.below hgr hB).fn hlt2
        have lb2 : b2 < wr.heap.size := World.block_lt_of_cell? _ _ d0
        clear hn
        cases hx : sameFn (nthF l k) (nthF m k)
        · have HX := Lib.hid hx
          have HCC := Lib.hid (HC.out k hlt hlt2)
          rw [hx] at HCC
          clear hx
          go_wp2_with (go_at_call 27; go_must (refine (HCC.out _ (below_alloc (below_alloc hgr _) _)).mono ?_; rintro e w1 ⟨rfl, hb1⟩))
          go_ret
          exact ⟨by rw [sameFns_at hlt HX.out]; rfl, below_step (below_alloc (below_alloc hgr _) _) hb1⟩
        · have HX := Lib.hid hx
          have HCC := Lib.hid (HC.out k hlt hlt2)
          rw [hx] at HCC
          clear hx
          go_wp2_with (go_at_call 27; go_must (refine (HCC.out _ (below_alloc (below_alloc hgr _) _)).mono ?_; rintro e w1 ⟨rfl, hb1⟩))
          go_roundw
          case rel => exact ⟨k + 1, by omega, by go_num, Lib.hid (by rw [eqAll, HQ.out, HX.out]; rfl), below_step (below_alloc (below_alloc hgr _) _) hb1⟩
          case measure => simp [intOf]; omega
      · obtain rfl : k = l.length := by omega
        go_wp2
        go_ret
        exact ⟨by rw [sameFns_yes HL.out HQ.out]; rfl, hgr⟩
  · have hn : ((l.length : Int) != (m.length : Int)) = true := by simp; omega
    have HL := Lib.hid hl
    clear hl
    go_enter Tryz.func26, Tryz.ntmps26
    go_wp2
    go_ret
    exact ⟨by rw [sameFns_len HL.out]; rfl, Below.refl _ _⟩
theorem strd_eq {s t : ByteArray} {b : Bool} (h : decide (s = t) = b) : (s.toList == t.toList) = b := by
  rw [← h, Bool.eq_iff_iff, beq_iff_eq, decide_eq_true_iff, ByteArray.toList_eq, ByteArray.toList_eq]
  exact ⟨fun e => by cases s; cases t; simp only at e; rw [Array.toList_inj.1 e], fun e => by rw [e]⟩
set_option maxRecDepth 100000 in
set_option maxHeartbeats 4000000 in
theorem sameEN (N : Nat) : ∀ (x y : ExD) (h h2 : Hd) (B : Nat) (w : World), SizeOf.sizeOf x < N → B ≤ w.heap.size → ExsAt w B h.a x.args → ExsAt w B h2.a y.args →
    Calls Tryz.prog 49 #[exG x h, exG y h2] w fun e w' => e = .returned (.bool (sameE x y)) ∧ Below w.heap.size w w' := by
  induction N with
  | zero => intro x y h h2 B w hN; omega
  | succ N ih =>
    intro x y h h2 B w hN hB hx hy
    have IH := Lib.hid ih
    have HX := Lib.hid hx
    have HY := Lib.hid hy
    clear ih hx hy
    have HS : Hid (sameE x y = (x.kind == y.kind && x.n == y.n && decide (x.name = y.name) && sameEs x.args y.args)) := Lib.hid (by cases x; cases y; rfl)
    cases hk : (x.kind == y.kind)
    · have HK := Lib.hid hk
      clear hk
      have hk : ((x.kind : Int) == y.kind) = false := HK.out
      go_enter Tryz.func49, Tryz.ntmps49
      go_wp2
      go_ret
      exact ⟨by rw [HS.out, HK.out]; rfl, below_alloc (below_alloc (Below.refl _ _) _) _⟩
    · cases hn : (x.n == y.n)
      · have HN := Lib.hid hn
        go_enter Tryz.func49, Tryz.ntmps49
        go_wp2
        go_ret
        exact ⟨by rw [HS.out, HN.out]; simp, below_alloc (below_alloc (Below.refl _ _) _) _⟩
      · cases hs : decide (x.name = y.name)
        · have HD := Lib.hid hs
          have hs' := strd_eq hs
          clear hs
          go_enter Tryz.func49, Tryz.ntmps49
          go_wp2
          go_ret
          exact ⟨by rw [HS.out, HD.out]; simp, below_alloc (below_alloc (Below.refl _ _) _) _⟩
        · have HD := Lib.hid (show sameE x y = sameEs x.args y.args by rw [HS.out, hk, hn, hs]; rfl)
          have hs' := strd_eq hs
          clear hs
          have hsz := args_size x
          have HC : Hid (∀ W, Below w.heap.size w W → Calls Tryz.prog 70 #[.slice h.a x.args.length h.c, .slice h2.a y.args.length h2.c, .func (.func 49) #[] #[]] W fun e W' => e = .returned (.bool (sameEs x.args y.args)) ∧ Below W.heap.size W W') := Lib.hid (by
            intro W hW
            obtain @⟨_, _, hd, len, rows, wf, kids⟩ := HX.out.keep hW hB
            obtain @⟨_, _, hd2, len2, rows2, wf2, kids2⟩ := HY.out.keep hW hB
            refine eqfE x.args y.args h.a h2.a h.c h2.c B hd hd2 W len len2 (Nat.le_trans hB hW.size) rows rows2 ?_
            intro k hk hk2 W2 hW2
            have hsz2 : SizeOf.sizeOf (nthE x.args k) < SizeOf.sizeOf x.args := getD_size _ hk
            exact IH.out _ _ _ _ B W2 (by omega) (Nat.le_trans hB (Nat.le_trans hW.size hW2.size)) ((kids k hk).keep hW2 (Nat.le_trans hB hW.size)) ((kids2 k hk2).keep hW2 (Nat.le_trans hB hW.size)))
          go_enter Tryz.func49, Tryz.ntmps49
          go_wp2_with (go_at_call 70; go_must (refine (HC.out _ (below_alloc (below_alloc (Below.refl _ _) _) _)).mono ?_; rintro e w1 ⟨rfl, hb1⟩))
          go_ret
          exact ⟨by rw [HD.out]; rfl, below_step (below_alloc (below_alloc (Below.refl _ _) _) _) hb1⟩
theorem sameEP (x y : ExD) (h h2 : Hd) (B : Nat) (w : World) (hB : B ≤ w.heap.size) (hx : ExsAt w B h.a x.args) (hy : ExsAt w B h2.a y.args) :
    Calls Tryz.prog 49 #[exG x h, exG y h2] w fun e w' => e = .returned (.bool (sameE x y)) ∧ Below w.heap.size w w' := sameEN _ x y h h2 B w (Nat.lt_succ_self _) hB hx hy

set_option maxRecDepth 100000 in
set_option maxHeartbeats 4000000 in
/-- Of two cases. -/
theorem same11 (N : Nat) (ih : ∀ (l m : List StD) (A A2 : Option Addr) (c cc B : Nat) (w : World), SizeOf.sizeOf l < N → B ≤ w.heap.size → StsAt w B A l → StsAt w B A2 m →
      Calls Tryz.prog 29 #[.slice A l.length c, .slice A2 m.length cc] w fun e w' => e = .returned (.bool (sameSs l m)) ∧ Below w.heap.size w w')
    (x y : CaD) (h h2 : Hd) (B : Nat) (w : World) (hN : SizeOf.sizeOf x.body < N) (hB : B ≤ w.heap.size) (hx : StsAt w B h.a x.body) (hy : StsAt w B h2.a y.body) :
    Calls Tryz.prog 51 #[.agg (caC x h), .agg (caC y h2)] w fun e w' => e = .returned (.bool (sameC x y)) ∧ Below w.heap.size w w' := by
  have HC : Hid (∀ W, Below w.heap.size w W → Calls Tryz.prog 29 #[.slice h.a x.body.length h.c, .slice h2.a y.body.length h2.c] W fun e W' => e = .returned (.bool (sameSs x.body y.body)) ∧ Below W.heap.size W W') := Lib.hid (fun W hW => ih _ _ _ _ _ _ B W hN (Nat.le_trans hB hW.size) (hx.keep hW hB) (hy.keep hW hB))
  have HS : Hid (sameC x y = (x.n == y.n && sameSs x.body y.body)) := Lib.hid (by cases x; cases y; rw [sameC]; rfl)
  clear ih hx hy
  cases hn : (x.n == y.n)
  · have HNn := Lib.hid hn
    go_enter Tryz.func51, Tryz.ntmps51
    go_wp2
    go_ret
    exact ⟨by rw [HS.out, HNn.out]; rfl, below_alloc (below_alloc (Below.refl _ _) _) _⟩
  · have HNn := Lib.hid hn
    revert HC HS
    generalize sameSs x.body y.body = rb
    intro HC HS
    go_enter Tryz.func51, Tryz.ntmps51
    go_wp2_with (go_at_call 29; go_must (refine (HC.out _ (below_alloc (below_alloc (Below.refl _ _) _) _)).mono ?_; rintro e w1 ⟨rfl, hb1⟩))
    go_ret
    exact ⟨by rw [HS.out, HNn.out]; rfl, below_step (below_alloc (below_alloc (Below.refl _ _) _) _) hb1⟩
set_option maxRecDepth 100000 in
set_option maxHeartbeats 8000000 in
/-- Of two statements. -/
theorem same1 (N : Nat) (ih : ∀ (l m : List StD) (A A2 : Option Addr) (c cc B : Nat) (w : World), SizeOf.sizeOf l < N → B ≤ w.heap.size → StsAt w B A l → StsAt w B A2 m →
      Calls Tryz.prog 29 #[.slice A l.length c, .slice A2 m.length cc] w fun e w' => e = .returned (.bool (sameSs l m)) ∧ Below w.heap.size w w')
    (x y : StD) (h h2 : HdS) (q q2 : Nat → Hd) (B : Nat) (w : World) (hN : SizeOf.sizeOf x < N) (hB : B ≤ w.heap.size) (hx : StIn w B x h q) (hy : StIn w B y h2 q2) :
    Calls Tryz.prog 48 #[.agg (stC x h), .agg (stC y h2)] w fun e w' => e = .returned (.bool (sameS x y)) ∧ Below w.heap.size w w' := by
  have IH := Lib.hid ih
  have HX := Lib.hid hx
  have HY := Lib.hid hy
  clear ih hx hy
  have HS : Hid (sameS x y = (x.kind == y.kind && decide (x.name = y.name) && x.n == y.n && sameE x.a y.a && sameE x.b y.b && sameSs x.body y.body && sameSs x.els y.els && sameCs x.cases y.cases)) := Lib.hid (by cases x; cases y; rw [sameS]; rfl)
  have HA : Hid (∀ W, Below w.heap.size w W → Calls Tryz.prog 49 #[exG x.a h.a, exG y.a h2.a] W fun e W' => e = .returned (.bool (sameE x.a y.a)) ∧ Below W.heap.size W W') := Lib.hid (by
    intro W hW
    exact sameEP x.a y.a h.a h2.a B W (Nat.le_trans hB hW.size) (HX.out.ea.keep hW hB) (HY.out.ea.keep hW hB))
  have HB : Hid (∀ W, Below w.heap.size w W → Calls Tryz.prog 49 #[exG x.b h.b, exG y.b h2.b] W fun e W' => e = .returned (.bool (sameE x.b y.b)) ∧ Below W.heap.size W W') := Lib.hid (by
    intro W hW
    exact sameEP x.b y.b h.b h2.b B W (Nat.le_trans hB hW.size) (HX.out.eb.keep hW hB) (HY.out.eb.keep hW hB))
  have HBO : Hid (∀ W, Below w.heap.size w W → Calls Tryz.prog 29 #[.slice h.body.a x.body.length h.body.c, .slice h2.body.a y.body.length h2.body.c] W fun e W' => e = .returned (.bool (sameSs x.body y.body)) ∧ Below W.heap.size W W') := Lib.hid (by
    intro W hW
    have := body_size x
    exact IH.out _ _ _ _ _ _ B W (by omega) (Nat.le_trans hB hW.size) (HX.out.body.keep hW hB) (HY.out.body.keep hW hB))
  have HEL : Hid (∀ W, Below w.heap.size w W → Calls Tryz.prog 29 #[.slice h.els.a x.els.length h.els.c, .slice h2.els.a y.els.length h2.els.c] W fun e W' => e = .returned (.bool (sameSs x.els y.els)) ∧ Below W.heap.size W W') := Lib.hid (by
    intro W hW
    have := els_size x
    exact IH.out _ _ _ _ _ _ B W (by omega) (Nat.le_trans hB hW.size) (HX.out.els.keep hW hB) (HY.out.els.keep hW hB))
  have HCA : Hid (∀ W, Below w.heap.size w W → Calls Tryz.prog 50 #[.slice h.cases.a x.cases.length h.cases.c, .slice h2.cases.a y.cases.length h2.cases.c, .func (.func 51) #[] #[]] W fun e W' => e = .returned (.bool (sameCs x.cases y.cases)) ∧ Below W.heap.size W W') := Lib.hid (by
    intro W hW
    refine eqfC x.cases y.cases h.cases.a h2.cases.a h.cases.c h2.cases.c B q q2 W HX.out.clen HY.out.clen (Nat.le_trans hB hW.size) (HX.out.crow.below hW hB) (HY.out.crow.below hW hB) ?_
    intro k hk hk2 W2 hW2
    have h0 := hW.trans (hW2.mono hW.size)
    have hs1 := cases_size x
    have hs2 : SizeOf.sizeOf (nthC x.cases k) < SizeOf.sizeOf x.cases := getD_size _ hk
    have hs3 := cbody_size (nthC x.cases k)
    exact same11 N IH.out _ _ _ _ B W2 (by omega) (Nat.le_trans hB h0.size) ((HX.out.cbody k hk).keep h0 hB) ((HY.out.cbody k hk2).keep h0 hB))
  cases hk : (x.kind == y.kind)
  · have HK := Lib.hid hk
    go_enter Tryz.func48, Tryz.ntmps48
    go_wp2
    go_ret
    exact ⟨by rw [HS.out, HK.out]; rfl, below_alloc (below_alloc (Below.refl _ _) _) _⟩
  · cases hs : decide (x.name = y.name)
    · have HD := Lib.hid hs
      have hs' := strd_eq hs
      clear hs
      go_enter Tryz.func48, Tryz.ntmps48
      go_wp2
      go_ret
      exact ⟨by rw [HS.out, HD.out]; simp, below_alloc (below_alloc (Below.refl _ _) _) _⟩
    · have HNm := Lib.hid hs
      have hs' := strd_eq hs
      clear hs
      cases hn : (x.n == y.n)
      · have HNn := Lib.hid hn
        go_enter Tryz.func48, Tryz.ntmps48
        go_wp2
        go_ret
        exact ⟨by rw [HS.out, HNn.out]; simp, below_alloc (below_alloc (Below.refl _ _) _) _⟩
      · have HS2 := Lib.hid (HS.out.trans (by rw [hk, HNm.out, hn]; rfl) : sameS x y = (sameE x.a y.a && sameE x.b y.b && sameSs x.body y.body && sameSs x.els y.els && sameCs x.cases y.cases))
        clear HS
        revert HA HB HBO HEL HCA HS2
        generalize sameE x.a y.a = ra
        generalize sameE x.b y.b = rb
        generalize sameSs x.body y.body = rbo
        generalize sameSs x.els y.els = rel
        generalize sameCs x.cases y.cases = rca
        intro HA HB HBO HEL HCA HS2
        cases ra
        · go_enter Tryz.func48, Tryz.ntmps48
          go_wp2_with (first | (go_at_call 49; ((with_reducible refine (HA.out _ (below_alloc (below_alloc (Below.refl _ _) _) _)).mono ?_); rintro e w1 ⟨rfl, hb1⟩; have H1 := below_step (below_alloc (below_alloc (Below.refl _ _) _) _) hb1; obtain ⟨hc1, hf1⟩ := bcell hb1; have l1 : w.heap.size + 1 < w1.heap.size := (by have := hb1.size; (try simp at this); omega); have m1 : w.heap.size < w1.heap.size := (by omega))))
          go_ret
          exact ⟨by rw [HS2.out]; rfl, H1⟩
        · cases rb
          · go_enter Tryz.func48, Tryz.ntmps48
            go_wp2_with (first | (go_at_call 49; ((with_reducible refine (HA.out _ (below_alloc (below_alloc (Below.refl _ _) _) _)).mono ?_); rintro e w1 ⟨rfl, hb1⟩; have H1 := below_step (below_alloc (below_alloc (Below.refl _ _) _) _) hb1; obtain ⟨hc1, hf1⟩ := bcell hb1; have l1 : w.heap.size + 1 < w1.heap.size := (by have := hb1.size; (try simp at this); omega); have m1 : w.heap.size < w1.heap.size := (by omega))) | (go_at_call 49; ((with_reducible refine (HB.out _ H1).mono ?_); rintro e w2 ⟨rfl, hb2⟩; have H2 := below_step H1 hb2; obtain ⟨hc2, hf2⟩ := bcell hb2; have l2 : w.heap.size + 1 < w2.heap.size := (by have := hb2.size; (try simp at this); omega); have m2 : w.heap.size < w2.heap.size := (by omega))))
            go_ret
            exact ⟨by rw [HS2.out]; rfl, H2⟩
          · cases rbo
            · go_enter Tryz.func48, Tryz.ntmps48
              go_wp2_with (first | (go_at_call 49; ((with_reducible refine (HA.out _ (below_alloc (below_alloc (Below.refl _ _) _) _)).mono ?_); rintro e w1 ⟨rfl, hb1⟩; have H1 := below_step (below_alloc (below_alloc (Below.refl _ _) _) _) hb1; obtain ⟨hc1, hf1⟩ := bcell hb1; have l1 : w.heap.size + 1 < w1.heap.size := (by have := hb1.size; (try simp at this); omega); have m1 : w.heap.size < w1.heap.size := (by omega))) | (go_at_call 49; ((with_reducible refine (HB.out _ H1).mono ?_); rintro e w2 ⟨rfl, hb2⟩; have H2 := below_step H1 hb2; obtain ⟨hc2, hf2⟩ := bcell hb2; have l2 : w.heap.size + 1 < w2.heap.size := (by have := hb2.size; (try simp at this); omega); have m2 : w.heap.size < w2.heap.size := (by omega))) | (go_at_call 29; ((with_reducible refine (HBO.out _ H2).mono ?_); rintro e w3 ⟨rfl, hb3⟩; have H3 := below_step H2 hb3; obtain ⟨hc3, hf3⟩ := bcell hb3; have l3 : w.heap.size + 1 < w3.heap.size := (by have := hb3.size; (try simp at this); omega); have m3 : w.heap.size < w3.heap.size := (by omega))))
              go_ret
              exact ⟨by rw [HS2.out]; rfl, H3⟩
            · cases rel
              · go_enter Tryz.func48, Tryz.ntmps48
                go_wp2_with (first | (go_at_call 49; ((with_reducible refine (HA.out _ (below_alloc (below_alloc (Below.refl _ _) _) _)).mono ?_); rintro e w1 ⟨rfl, hb1⟩; have H1 := below_step (below_alloc (below_alloc (Below.refl _ _) _) _) hb1; obtain ⟨hc1, hf1⟩ := bcell hb1; have l1 : w.heap.size + 1 < w1.heap.size := (by have := hb1.size; (try simp at this); omega); have m1 : w.heap.size < w1.heap.size := (by omega))) | (go_at_call 49; ((with_reducible refine (HB.out _ H1).mono ?_); rintro e w2 ⟨rfl, hb2⟩; have H2 := below_step H1 hb2; obtain ⟨hc2, hf2⟩ := bcell hb2; have l2 : w.heap.size + 1 < w2.heap.size := (by have := hb2.size; (try simp at this); omega); have m2 : w.heap.size < w2.heap.size := (by omega))) | (go_at_call 29; ((with_reducible refine (HBO.out _ H2).mono ?_); rintro e w3 ⟨rfl, hb3⟩; have H3 := below_step H2 hb3; obtain ⟨hc3, hf3⟩ := bcell hb3; have l3 : w.heap.size + 1 < w3.heap.size := (by have := hb3.size; (try simp at this); omega); have m3 : w.heap.size < w3.heap.size := (by omega))) | (go_at_call 29; ((with_reducible refine (HEL.out _ H3).mono ?_); rintro e w4 ⟨rfl, hb4⟩; have H4 := below_step H3 hb4; obtain ⟨hc4, hf4⟩ := bcell hb4; have l4 : w.heap.size + 1 < w4.heap.size := (by have := hb4.size; (try simp at this); omega); have m4 : w.heap.size < w4.heap.size := (by omega))))
                go_ret
                exact ⟨by rw [HS2.out]; rfl, H4⟩
              · cases rca
                · go_enter Tryz.func48, Tryz.ntmps48
                  go_wp2_with (first | (go_at_call 49; ((with_reducible refine (HA.out _ (below_alloc (below_alloc (Below.refl _ _) _) _)).mono ?_); rintro e w1 ⟨rfl, hb1⟩; have H1 := below_step (below_alloc (below_alloc (Below.refl _ _) _) _) hb1; obtain ⟨hc1, hf1⟩ := bcell hb1; have l1 : w.heap.size + 1 < w1.heap.size := (by have := hb1.size; (try simp at this); omega); have m1 : w.heap.size < w1.heap.size := (by omega))) | (go_at_call 49; ((with_reducible refine (HB.out _ H1).mono ?_); rintro e w2 ⟨rfl, hb2⟩; have H2 := below_step H1 hb2; obtain ⟨hc2, hf2⟩ := bcell hb2; have l2 : w.heap.size + 1 < w2.heap.size := (by have := hb2.size; (try simp at this); omega); have m2 : w.heap.size < w2.heap.size := (by omega))) | (go_at_call 29; ((with_reducible refine (HBO.out _ H2).mono ?_); rintro e w3 ⟨rfl, hb3⟩; have H3 := below_step H2 hb3; obtain ⟨hc3, hf3⟩ := bcell hb3; have l3 : w.heap.size + 1 < w3.heap.size := (by have := hb3.size; (try simp at this); omega); have m3 : w.heap.size < w3.heap.size := (by omega))) | (go_at_call 29; ((with_reducible refine (HEL.out _ H3).mono ?_); rintro e w4 ⟨rfl, hb4⟩; have H4 := below_step H3 hb4; obtain ⟨hc4, hf4⟩ := bcell hb4; have l4 : w.heap.size + 1 < w4.heap.size := (by have := hb4.size; (try simp at this); omega); have m4 : w.heap.size < w4.heap.size := (by omega))) | (go_at_call 50; ((with_reducible refine (HCA.out _ H4).mono ?_); rintro e w5 ⟨rfl, hb5⟩; have H5 := below_step H4 hb5; obtain ⟨hc5, hf5⟩ := bcell hb5; have l5 : w.heap.size + 1 < w5.heap.size := (by have := hb5.size; (try simp at this); omega); have m5 : w.heap.size < w5.heap.size := (by omega))))
                  go_ret
                  exact ⟨by rw [HS2.out]; rfl, H5⟩
                · go_enter Tryz.func48, Tryz.ntmps48
                  go_wp2_with (first | (go_at_call 49; ((with_reducible refine (HA.out _ (below_alloc (below_alloc (Below.refl _ _) _) _)).mono ?_); rintro e w1 ⟨rfl, hb1⟩; have H1 := below_step (below_alloc (below_alloc (Below.refl _ _) _) _) hb1; obtain ⟨hc1, hf1⟩ := bcell hb1; have l1 : w.heap.size + 1 < w1.heap.size := (by have := hb1.size; (try simp at this); omega); have m1 : w.heap.size < w1.heap.size := (by omega))) | (go_at_call 49; ((with_reducible refine (HB.out _ H1).mono ?_); rintro e w2 ⟨rfl, hb2⟩; have H2 := below_step H1 hb2; obtain ⟨hc2, hf2⟩ := bcell hb2; have l2 : w.heap.size + 1 < w2.heap.size := (by have := hb2.size; (try simp at this); omega); have m2 : w.heap.size < w2.heap.size := (by omega))) | (go_at_call 29; ((with_reducible refine (HBO.out _ H2).mono ?_); rintro e w3 ⟨rfl, hb3⟩; have H3 := below_step H2 hb3; obtain ⟨hc3, hf3⟩ := bcell hb3; have l3 : w.heap.size + 1 < w3.heap.size := (by have := hb3.size; (try simp at this); omega); have m3 : w.heap.size < w3.heap.size := (by omega))) | (go_at_call 29; ((with_reducible refine (HEL.out _ H3).mono ?_); rintro e w4 ⟨rfl, hb4⟩; have H4 := below_step H3 hb4; obtain ⟨hc4, hf4⟩ := bcell hb4; have l4 : w.heap.size + 1 < w4.heap.size := (by have := hb4.size; (try simp at this); omega); have m4 : w.heap.size < w4.heap.size := (by omega))) | (go_at_call 50; ((with_reducible refine (HCA.out _ H4).mono ?_); rintro e w5 ⟨rfl, hb5⟩; have H5 := below_step H4 hb5; obtain ⟨hc5, hf5⟩ := bcell hb5; have l5 : w.heap.size + 1 < w5.heap.size := (by have := hb5.size; (try simp at this); omega); have m5 : w.heap.size < w5.heap.size := (by omega))))
                  go_ret
                  exact ⟨by rw [HS2.out]; rfl, H5⟩

theorem sameSN (N : Nat) : ∀ (l m : List StD) (A A2 : Option Addr) (c cc B : Nat) (w : World), SizeOf.sizeOf l < N → B ≤ w.heap.size → StsAt w B A l → StsAt w B A2 m →
    Calls Tryz.prog 29 #[.slice A l.length c, .slice A2 m.length cc] w fun e w' => e = .returned (.bool (sameSs l m)) ∧ Below w.heap.size w w' := by
  induction N with
  | zero => intro l m A A2 c cc B w hN; omega
  | succ N ih =>
    intro l m A A2 c cc B w hN hB hx hy
    obtain ⟨hd, hc, rows, kids, len⟩ := hx.open_
    obtain ⟨hd2, hc2, rows2, kids2, len2⟩ := hy.open_
    have HC : Hid (Calls Tryz.prog 47 #[.slice A l.length c, .slice A2 m.length cc, .func (.func 48) #[] #[]] w fun e w' => e = .returned (.bool (sameSs l m)) ∧ Below w.heap.size w w') := Lib.hid (by
      obtain @⟨_, _, hd, hc, len, rows, wf, ea, eb, body, els, clen, crow, cwf, cbody⟩ := hx
      obtain @⟨_, _, hd2, hc2, len2, rows2, wf2, ea2, eb2, body2, els2, clen2, crow2, cwf2, cbody2⟩ := hy
      refine eqfS l m A A2 c cc B hd hd2 w len len2 hB rows rows2 ?_
      intro k hk hk2 W hW
      have hsz : SizeOf.sizeOf (nthS l k) < SizeOf.sizeOf l := getD_size _ hk
      exact same1 N (fun l m A A2 c cc B w hN hB hx hy => ih l m A A2 c cc B w hN hB hx hy) _ _ _ _ (hc k) (hc2 k) B W (by omega) (Nat.le_trans hB hW.size)
        ((⟨wf k hk, ea k hk, eb k hk, body k hk, els k hk, clen k hk, crow k hk, cwf k hk, cbody k hk⟩ : StIn w B (nthS l k) (hd k) (hc k)).below hW hB)
        ((⟨wf2 k hk2, ea2 k hk2, eb2 k hk2, body2 k hk2, els2 k hk2, clen2 k hk2, crow2 k hk2, cwf2 k hk2, cbody2 k hk2⟩ : StIn w B (nthS m k) (hd2 k) (hc2 k)).below hW hB))
    clear ih hx hy rows rows2 kids kids2
    go_enter Tryz.func29, Tryz.ntmps29
    go_wp2_with (go_at_call 47; go_must (refine HC.out.mono ?_; rintro e w1 ⟨rfl, hb1⟩))
    go_ret
    exact ⟨rfl, hb1⟩
theorem sameSP (l m : List StD) (A A2 : Option Addr) (c cc B : Nat) (w : World) (hB : B ≤ w.heap.size) (hx : StsAt w B A l) (hy : StsAt w B A2 m) :
    Calls Tryz.prog 29 #[.slice A l.length c, .slice A2 m.length cc] w fun e w' => e = .returned (.bool (sameSs l m)) ∧ Below w.heap.size w w' := sameSN _ l m A A2 c cc B w (Nat.lt_succ_self _) hB hx hy

set_option maxRecDepth 100000 in
set_option maxHeartbeats 4000000 in
theorem eqIP (l m : List Int) (A A2 : Option Addr) (c cc B : Nat) (w : World) (len : l.length * 8 ≤ 140737488351232) (len2 : m.length * 8 ≤ 140737488351232) (hB : B ≤ w.heap.size)
    (rows : RowsAt w B A l.length 1 fun k _ => .int .i64 (l.getD k 0)) (rows2 : RowsAt w B A2 m.length 1 fun k _ => .int .i64 (m.getD k 0)) :
    Calls Tryz.prog 25 #[.slice A l.length c, .slice A2 m.length cc] w fun e w' => e = .returned (.bool (sameIs l m)) ∧ Below w.heap.size w w' := by
  have HR := Lib.hid rows
  have HR2 := Lib.hid rows2
  clear rows rows2
  by_cases hl : l.length = m.length
  · have hn : ((l.length : Int) != (m.length : Int)) = false := by simp [hl]
    have HL := Lib.hid hl
    clear hl
    go_enter Tryz.func25, Tryz.ntmps25
    go_wp2
    go_loopw [13] (fun i W => ∃ k : Nat, k ≤ l.length ∧ i = .int .i64 k ∧ Hid (eqAll (fun k => nthI l k == nthI m k) k = true) ∧ Below w.heap.size w W) (fun i _ => l.length - (intOf i).toNat)
    case atStart => exact ⟨0, Nat.zero_le _, rfl, Lib.hid rfl, Below.refl _ _⟩
    case round =>
      obtain ⟨k, hk, rfl, HQ, hgr⟩ := hrel
      have l1 := hgr.size
      by_cases hlt : k < l.length
      · have hlt2 : k < m.length := by have := HL.out; omega
        obtain ⟨b, offb, rfl, hbb, hcb⟩ := (HR.out.below hgr hB) (by omega)
        have c0 : wr.cell? ⟨b, offb + k, none⟩ = some (.int .i64 (nthI l k)) := by have := hcb k hlt 0 (by omega); rw [Nat.mul_one, Nat.add_zero] at this; exact this
        clear hcb
        obtain ⟨b2, offb2, rfl, hbb2, hcb2⟩ := (HR2.out.below hgr hB) (by omega)
        have d0 : wr.cell? ⟨b2, offb2 + k, none⟩ = some (.int .i64 (nthI m k)) := by have := hcb2 k hlt2 0 (by omega); rw [Nat.mul_one, Nat.add_zero] at this; exact this
        clear hcb2
        clear hn
        cases hx : (nthI l k == nthI m k)
        · have HX := Lib.hid hx
          have hx' : (nthI l k != nthI m k) = true := by rw [bne, HX.out]; rfl
          go_wp2
          go_region
          all_goals go_wp2
          all_goals go_ret
          all_goals exact ⟨by unfold sameIs; rw [eqAll_no hlt HX.out]; simp, by first | exact hgr | exact hgr.drew | exact (Below.drewN hgr _)⟩
        · have HX := Lib.hid hx
          have hx' : (nthI l k != nthI m k) = false := by rw [bne, HX.out]; rfl
          go_wp2
          go_region
          all_goals go_wp2
          all_goals go_roundw
          case rel => exact ⟨k + 1, by omega, by go_num, Lib.hid (by rw [eqAll, HQ.out, HX.out]; rfl), by first | exact hgr | exact hgr.drew⟩
          case measure => simp [intOf]; omega

      · obtain rfl : k = l.length := by omega
        go_wp2
        go_ret
        exact ⟨by unfold sameIs; rw [HQ.out]; simp [HL.out], hgr⟩
  · have hn : ((l.length : Int) != (m.length : Int)) = true := by simp; omega
    have HL := Lib.hid hl
    clear hl
    go_enter Tryz.func25, Tryz.ntmps25
    go_wp2
    go_ret
    exact ⟨by unfold sameIs; simp [HL.out], Below.refl _ _⟩

set_option maxRecDepth 100000 in
set_option maxHeartbeats 4000000 in
theorem eqPP (l m : List PaD) (A A2 : Option Addr) (c cc B : Nat) (w : World) (len : l.length * 32 ≤ 140737488351232) (len2 : m.length * 32 ≤ 140737488351232) (hB : B ≤ w.heap.size)
    (rows : RowsAt w B A l.length 3 fun k => paV (nthP l k)) (rows2 : RowsAt w B A2 m.length 3 fun k => paV (nthP m k)) :
    Calls Tryz.prog 28 #[.slice A l.length c, .slice A2 m.length cc] w fun e w' => e = .returned (.bool (samePas l m)) ∧ Below w.heap.size w w' := by
  have HR := Lib.hid rows
  have HR2 := Lib.hid rows2
  clear rows rows2
  by_cases hl : l.length = m.length
  · have hn : ((l.length : Int) != (m.length : Int)) = false := by simp [hl]
    have HL := Lib.hid hl
    clear hl
    go_enter Tryz.func28, Tryz.ntmps28
    go_wp2
    go_loopw [13] (fun i W => ∃ k : Nat, k ≤ l.length ∧ i = .int .i64 k ∧ Hid (eqAll (fun k => samePa (nthP l k) (nthP m k)) k = true) ∧ Below w.heap.size w W) (fun i _ => l.length - (intOf i).toNat)
    case atStart => exact ⟨0, Nat.zero_le _, rfl, Lib.hid rfl, Below.refl _ _⟩
    case round =>
      obtain ⟨k, hk, rfl, HQ, hgr⟩ := hrel
      have l1 := hgr.size
      by_cases hlt : k < l.length
      · have hlt2 : k < m.length := by have := HL.out; omega
        obtain ⟨b, offb, rfl, c0, c1, c2⟩ := (HR.out.below hgr hB).pa hlt
        obtain ⟨b2, offb2, rfl, d0, d1, d2⟩ := (HR2.out.below hgr hB).pa hlt2
        clear hn
        cases s0 : decide ((nthP l k).name = (nthP m k).name)
        · have n0 := strd_eq s0
          have hx : samePa (nthP l k) (nthP m k) = false := by unfold samePa; rw [s0]; rfl
          clear s0
          have HX := Lib.hid hx
          go_wp2
          go_region
          all_goals go_wp2
          all_goals go_ret
          all_goals exact ⟨by rw [samePas_all l m]; rw [eqAll_no hlt HX.out]; simp, by first | exact hgr | exact hgr.drew | exact (Below.drewN hgr _)⟩
        · have n0 := strd_eq s0
          cases s1 : ((nthP l k).lo == (nthP m k).lo)
          · have hx : samePa (nthP l k) (nthP m k) = false := by unfold samePa; rw [s0, s1]; rfl
            clear s0
            have HX := Lib.hid hx
            go_wp2
            go_region
            all_goals go_wp2
            all_goals go_ret
            all_goals exact ⟨by rw [samePas_all l m]; rw [eqAll_no hlt HX.out]; simp, by first | exact hgr | exact hgr.drew | exact (Below.drewN hgr _)⟩
          · cases s2 : ((nthP l k).hi == (nthP m k).hi)
            · have hx : samePa (nthP l k) (nthP m k) = false := by unfold samePa; rw [s0, s1, s2]; rfl
              clear s0
              have HX := Lib.hid hx
              go_wp2
              go_region
              all_goals go_wp2
              all_goals go_ret
              all_goals exact ⟨by rw [samePas_all l m]; rw [eqAll_no hlt HX.out]; simp, by first | exact hgr | exact hgr.drew | exact (Below.drewN hgr _)⟩
            · have hx : samePa (nthP l k) (nthP m k) = true := by unfold samePa; rw [s0, s1, s2]; rfl
              clear s0
              have HX := Lib.hid hx
              go_wp2
              go_region
              all_goals go_wp2
              all_goals go_roundw
              case rel => exact ⟨k + 1, by omega, by go_num, Lib.hid (by rw [eqAll, HQ.out, HX.out]; rfl), by first | exact hgr | exact hgr.drew⟩
              case measure => simp [intOf]; omega

      · obtain rfl : k = l.length := by omega
        go_wp2
        go_ret
        exact ⟨by rw [samePas_all l m]; rw [HQ.out]; simp [HL.out], hgr⟩
  · have hn : ((l.length : Int) != (m.length : Int)) = true := by simp; omega
    have HL := Lib.hid hl
    clear hl
    go_enter Tryz.func28, Tryz.ntmps28
    go_wp2
    go_ret
    exact ⟨by rw [samePas_all l m]; simp [HL.out], Below.refl _ _⟩

theorem same1F (x y : FnD) (h h2 : HdF) (B : Nat) (w : World) (hB : B ≤ w.heap.size) (hx : FnOk w B x h) (hy : FnOk w B y h2) :
    Calls Tryz.prog 27 #[.agg (fnC x h), .agg (fnC y h2)] w fun e w' => e = .returned (.bool (sameFn x y)) ∧ Below w.heap.size w w' := by
  have HX := Lib.hid hx
  have HY := Lib.hid hy
  clear hx hy
  have HP : Hid (∀ W, Below w.heap.size w W → Calls Tryz.prog 28 #[.slice h.params.a x.params.length h.params.c, .slice h2.params.a y.params.length h2.params.c] W fun e W' => e = .returned (.bool (samePas x.params y.params)) ∧ Below W.heap.size W W') := Lib.hid (fun W hW =>
    eqPP _ _ _ _ _ _ B W HX.out.plen HY.out.plen (Nat.le_trans hB hW.size) (HX.out.params.below hW hB) (HY.out.params.below hW hB))
  have HB : Hid (∀ W, Below w.heap.size w W → Calls Tryz.prog 29 #[.slice h.body.a x.body.length h.body.c, .slice h2.body.a y.body.length h2.body.c] W fun e W' => e = .returned (.bool (sameSs x.body y.body)) ∧ Below W.heap.size W W') := Lib.hid (fun W hW =>
    sameSP _ _ _ _ _ _ B W (Nat.le_trans hB hW.size) (HX.out.body.keep hW hB) (HY.out.body.keep hW hB))
  have HS : Hid (sameFn x y = (decide (x.name = y.name) && samePas x.params y.params && sameSs x.body y.body)) := Lib.hid rfl
  cases hs : decide (x.name = y.name)
  · have HD := Lib.hid hs
    have hs' := strd_eq hs
    clear hs
    go_enter Tryz.func27, Tryz.ntmps27
    go_wp2
    go_ret
    exact ⟨by rw [HS.out, HD.out]; rfl, below_alloc (below_alloc (Below.refl _ _) _) _⟩
  · have hs' := strd_eq hs
    have HS2 : Hid (sameFn x y = (samePas x.params y.params && sameSs x.body y.body)) := Lib.hid (by rw [HS.out, hs]; rfl)
    clear hs HS
    revert HP HB HS2
    generalize samePas x.params y.params = rp
    generalize sameSs x.body y.body = rb
    intro HP HB HS2
    cases rp
    · go_enter Tryz.func27, Tryz.ntmps27
      go_wp2_with (go_at_call 28; go_must (refine (HP.out _ (below_alloc (below_alloc (Below.refl _ _) _) _)).mono ?_; rintro e w1 ⟨rfl, hb1⟩))
      go_ret
      exact ⟨by rw [HS2.out]; rfl, below_step (below_alloc (below_alloc (Below.refl _ _) _) _) hb1⟩
    · go_enter Tryz.func27, Tryz.ntmps27
      go_wp2_with (first
        | (go_at_call 28; go_must (refine (HP.out _ (below_alloc (below_alloc (Below.refl _ _) _) _)).mono ?_; rintro e w1 ⟨rfl, hb1⟩; obtain ⟨hc1, hf1⟩ := bcell hb1; have H1 := below_step (below_alloc (below_alloc (Below.refl _ _) _) _) hb1; have l1 : w.heap.size + 1 < w1.heap.size := (by have := hb1.size; (try simp at this); omega); have m1 : w.heap.size < w1.heap.size := (by omega)))
        | (go_at_call 29; go_must (refine (HB.out _ H1).mono ?_; rintro e w2 ⟨rfl, hb2⟩; have H2 := below_step H1 hb2)))
      go_ret
      exact ⟨by rw [HS2.out]; rfl, H2⟩
/-- Same. -/
theorem sameCall (p q : PrD) (wa fa wa2 fa2 : Option Addr) (wc fc wc2 fc2 B : Nat) (w : World) (hB : B ≤ w.heap.size) (hp : PrOk w B p wa fa) (hq : PrOk w B q wa2 fa2) :
    Calls Tryz.prog 9 #[prV p wa fa wc fc, prV q wa2 fa2 wc2 fc2] w fun e w' => e = .returned (.bool (sameP p q)) ∧ Below w.heap.size w w' := by
  have HX := Lib.hid hp
  have HY := Lib.hid hq
  clear hp hq
  have HI : Hid (∀ W, Below w.heap.size w W → Calls Tryz.prog 25 #[.slice wa p.widen.length wc, .slice wa2 q.widen.length wc2] W fun e W' => e = .returned (.bool (sameIs p.widen q.widen)) ∧ Below W.heap.size W W') := Lib.hid (fun W hW =>
    eqIP _ _ _ _ _ _ B W HX.out.wlen HY.out.wlen (Nat.le_trans hB hW.size) (HX.out.widen.below hW hB) (HY.out.widen.below hW hB))
  have HF : Hid (∀ W, Below w.heap.size w W → Calls Tryz.prog 26 #[.slice fa p.funcs.length fc, .slice fa2 q.funcs.length fc2, .func (.func 27) #[] #[]] W fun e W' => e = .returned (.bool (sameFns p.funcs q.funcs)) ∧ Below W.heap.size W W') := Lib.hid (by
    intro W hW
    obtain @⟨hd, len, rows, each⟩ := HX.out.funcs.keep hW hB
    obtain @⟨hd2, len2, rows2, each2⟩ := HY.out.funcs.keep hW hB
    refine eqfF _ _ _ _ _ _ B hd hd2 W len len2 (Nat.le_trans hB hW.size) rows rows2 ?_
    intro k hk hk2 W2 hW2
    exact same1F _ _ _ _ B W2 (Nat.le_trans hB (Nat.le_trans hW.size hW2.size)) ((each k hk).keep hW2 (Nat.le_trans hB hW.size)) ((each2 k hk2).keep hW2 (Nat.le_trans hB hW.size)))
  have HS2 : Hid (sameP p q = (sameIs p.widen q.widen && sameFns p.funcs q.funcs)) := Lib.hid (by rw [sameIs_eq, sameP])
  revert HI HF HS2
  generalize sameIs p.widen q.widen = ri
  generalize sameFns p.funcs q.funcs = rf
  intro HI HF HS2
  cases ri
  · go_enter Tryz.func9, Tryz.ntmps9
    go_wp2_with (go_at_call 25; go_must (refine (HI.out _ (below_alloc (below_alloc (Below.refl _ _) _) _)).mono ?_; rintro e w1 ⟨rfl, hb1⟩))
    go_ret
    exact ⟨by rw [HS2.out]; rfl, below_step (below_alloc (below_alloc (Below.refl _ _) _) _) hb1⟩
  · go_enter Tryz.func9, Tryz.ntmps9
    go_wp2_with (first
      | (go_at_call 25; go_must (refine (HI.out _ (below_alloc (below_alloc (Below.refl _ _) _) _)).mono ?_; rintro e w1 ⟨rfl, hb1⟩; obtain ⟨hc1, hf1⟩ := bcell hb1; have H1 := below_step (below_alloc (below_alloc (Below.refl _ _) _) _) hb1; have l1 : w.heap.size + 1 < w1.heap.size := (by have := hb1.size; (try simp at this); omega); have m1 : w.heap.size < w1.heap.size := (by omega)))
      | (go_at_call 26; go_must (refine (HF.out _ H1).mono ?_; rintro e w2 ⟨rfl, hb2⟩; have H2 := below_step H1 hb2)))
    go_ret
    exact ⟨by rw [HS2.out]; rfl, H2⟩

end Go.Proofs.YtdddppmfeoebgaaGreatDoor
