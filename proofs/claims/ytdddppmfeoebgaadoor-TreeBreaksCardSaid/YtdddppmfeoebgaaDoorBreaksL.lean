/-
  Layer 2 (tree): the walk of TreeBreaks.
-/
import Derived.Test.YtdddppmfeoebgaaDoorAwakeA
import Derived.Test.YtdddppmfeoebgaaDoorCopyW
import Derived.Test.YtdddppmfeoebgaaDoorTurned
import Derived.Test.YtdddppmfeoebgaaDoorBrk
import Derived.Deep.CutBlock
import Derived.Laws.StructEq
namespace Go.Proofs.YtdddppmfeoebgaaDoor
open Go.RowKit
set_option linter.unusedSimpArgs false
set_option linter.unusedVariables false
set_option maxRecDepth 100000 in
set_option maxHeartbeats 4000000 in
theorem breaks_bad (p : PrD) (wa fa : Option Addr) (uc vc : Nat) (fn at_ : Int) (w : World) (hp : PrOk w w.heap.size p wa fa) (ht : Pow10 w) (he : (checkD p).e ≠ 0) :
    Calls Tryd.prog 8 #[prV p wa fa uc vc, .int .i64 fn, .int .i64 at_] w fun e w' => e = .returned (.bool true) ∧ Below w.heap.size w w' := by
  have X0 := Whl.new w 26 (prC p wa fa uc vc)
  have K0 := below_alloc (Below.refl w.heap.size w) (.cells (prC p wa fa uc vc) 26)
  have HP := Lib.hid hp
  have HA := Lib.hid (awakeL _ (ht.step K0))
  have hfl : p.funcs.length * 64 ≤ 140737488351232 := by obtain @⟨_, a, _, _⟩ := hp.funcs; exact a
  clear hp ht
  obtain ⟨x0, x1⟩ := X0.c2
  have hck : ∀ W, PrOk W W.heap.size p wa fa → Calls Tryd.prog 12 #[prV p wa fa uc vc] W fun e W' => e = .returned (faultV (checkD p)) ∧ Below W.heap.size W W' := fun W h => checkP p wa fa uc vc _ W (Nat.le_refl _) h
  have hfn := check_fn p
  revert hck hfn he
  generalize checkD p = C
  intro he hck hfn
  have HCK0 := Lib.hid hck
  clear hck
  have e0 : (C.e != 0) = true := by simpa using he
  clear he
  have e1 : decide ((0 : Int) ≤ (C.fn : Int)) = true := by simp
  have e2 : decide ((C.fn : Int) ≤ (p.funcs.length : Int)) = true := by simpa using hfn
  have e3 : decide ((0 : Int) ≤ (C.at_ : Int)) = true := by simp
  go_enter Tryd.func8, Tryd.ntmps8
  (try simp only [List.append_eq, List.cons_append, List.nil_append])
  go_upto_region 3 with (go_at_call 11; go_must (refine HA.out.mono ?_; rintro e w1 ⟨rfl, hb1⟩; have X1 := X0.below' hb1; have K1 := below_step K0 hb1; clear x0 x1; obtain ⟨x0, x1⟩ := X1.c2; have lx1 := X1.lt))
  go_upto_region 4 with (go_at_call 12; go_must (refine (HCK0.out w1 (HP.out.step K1)).mono ?_; rintro e w2 ⟨rfl, hb2⟩; have X2 := X1.below' hb2; have K2 := below_step K1 hb2; clear x0 x1; obtain ⟨x0, x1⟩ := X2.c2; have lx2 := X2.lt))
  have F3 := Whl.new w2 29 (#[.int .i64 C.e, .int .i64 (C.fn : Int), .int .i64 (C.at_ : Int)])
  have X3 := X2.alloc (.cells (#[.int .i64 C.e, .int .i64 (C.fn : Int), .int .i64 (C.at_ : Int)]) 29)
  have K3 := below_alloc K2 (.cells (#[.int .i64 C.e, .int .i64 (C.fn : Int), .int .i64 (C.at_ : Int)]) 29)
  generalize w2.alloc (.cells (#[.int .i64 C.e, .int .i64 (C.fn : Int), .int .i64 (C.at_ : Int)]) 29) = v3 at F3 X3 K3 ⊢
  obtain ⟨f0, f1, f2⟩ := F3.c3
  clear x0 x1
  obtain ⟨x0, x1⟩ := X3.c2
  have lf := F3.lt
  have lx := X3.lt
  clear X0 X1 X2 K0 K1 K2 hb1 hb2 F3 X3 lx1 lx2
  go_wp2
  go_ret
  exact ⟨rfl, K3⟩
set_option maxRecDepth 100000 in
set_option maxHeartbeats 4000000 in
theorem breaks_out (p : PrD) (wa fa : Option Addr) (uc vc : Nat) (fn at_ : Int) (w : World) (hp : PrOk w w.heap.size p wa fa) (ht : Pow10 w) (he : (checkD p).e = 0) (hout : p.funcs.length = 0 ∨ fn < 0 ∨ (p.funcs.length : Int) ≤ fn ∨ at_ < 1) :
    Calls Tryd.prog 8 #[prV p wa fa uc vc, .int .i64 fn, .int .i64 at_] w fun e w' => e = .returned (.bool true) ∧ Below w.heap.size w w' := by
  have X0 := Whl.new w 26 (prC p wa fa uc vc)
  have K0 := below_alloc (Below.refl w.heap.size w) (.cells (prC p wa fa uc vc) 26)
  have HP := Lib.hid hp
  have HA := Lib.hid (awakeL _ (ht.step K0))
  have hfl : p.funcs.length * 64 ≤ 140737488351232 := by obtain @⟨_, a, _, _⟩ := hp.funcs; exact a
  clear hp ht
  obtain ⟨x0, x1⟩ := X0.c2
  have hck : ∀ W, PrOk W W.heap.size p wa fa → Calls Tryd.prog 12 #[prV p wa fa uc vc] W fun e W' => e = .returned (.agg #[.int .i64 0, .int .i64 0, .int .i64 0]) ∧ Below W.heap.size W W' := fun W h => by
    have := checkP p wa fa uc vc _ W (Nat.le_refl _) h
    rwa [checkD_ok_eq he] at this
  have HCK0 := Lib.hid hck
  have HO := Lib.hid hout
  clear hck he hout
  go_enter Tryd.func8, Tryd.ntmps8
  (try simp only [List.append_eq, List.cons_append, List.nil_append])
  go_upto_region 3 with (go_at_call 11; go_must (refine HA.out.mono ?_; rintro e w1 ⟨rfl, hb1⟩; have X1 := X0.below' hb1; have K1 := below_step K0 hb1; clear x0 x1; obtain ⟨x0, x1⟩ := X1.c2; have lx1 := X1.lt))
  go_upto_region 4 with (go_at_call 12; go_must (refine (HCK0.out w1 (HP.out.step K1)).mono ?_; rintro e w2 ⟨rfl, hb2⟩; have X2 := X1.below' hb2; have K2 := below_step K1 hb2; clear x0 x1; obtain ⟨x0, x1⟩ := X2.c2; have lx2 := X2.lt))
  have F3 := Whl.new w2 29 (#[.int .i64 0, .int .i64 0, .int .i64 0])
  have X3 := X2.alloc (.cells (#[.int .i64 0, .int .i64 0, .int .i64 0]) 29)
  have K3 := below_alloc K2 (.cells (#[.int .i64 0, .int .i64 0, .int .i64 0]) 29)
  generalize w2.alloc (.cells (#[.int .i64 0, .int .i64 0, .int .i64 0]) 29) = v3 at F3 X3 K3 ⊢
  obtain ⟨f0, f1, f2⟩ := F3.c3
  clear x0 x1
  obtain ⟨x0, x1⟩ := X3.c2
  have lf := F3.lt
  have lx := X3.lt
  clear X0 X1 X2 K0 K1 K2 hb1 hb2 F3 X3 lx1 lx2
  go_upto_region 6 with fail
  cases h0 : ((p.funcs.length : Int) == 0)
  · cases h1 : decide (fn < 0)
    · cases h2 : decide ((p.funcs.length : Int) ≤ fn)
      · cases h3 : decide (at_ < 1)
        · exfalso
          simp only [beq_eq_false_iff_ne, decide_eq_false_iff_not] at h0 h1 h2 h3
          have := HO.out
          omega
        · go_wp2
          go_ret
          exact ⟨rfl, K3⟩
      · go_wp2
        go_ret
        exact ⟨rfl, K3⟩
    · go_wp2
      go_ret
      exact ⟨rfl, K3⟩
  · go_wp2
    go_ret
    exact ⟨rfl, K3⟩
set_option maxRecDepth 100000 in
set_option maxHeartbeats 8000000 in
theorem breaks_in (p : PrD) (wa fa : Option Addr) (uc vc k t : Nat) (w : World) (hp : PrOk w w.heap.size p wa fa) (ht : Pow10 w) (he : (checkD p).e = 0) (hk : k < p.funcs.length) (htt : 1 ≤ t) (hti : In64 (t : Int)) :
    Calls Tryd.prog 8 #[prV p wa fa uc vc, .int .i64 (k : Int), .int .i64 (t : Int)] w fun e w' => e = .returned (.bool true) ∧ Below w.heap.size w w' := by
  have X0 := Whl.new w 26 (prC p wa fa uc vc)
  have K0 := below_alloc (Below.refl w.heap.size w) (.cells (prC p wa fa uc vc) 26)
  have HP := Lib.hid hp
  have HT := Lib.hid ht
  have HA := Lib.hid (awakeL _ (ht.step K0))
  have hfl : p.funcs.length * 64 ≤ 140737488351232 := by obtain @⟨_, a, _, _⟩ := hp.funcs; exact a
  have hcnt : numSs (nthF p.funcs k).body ≤ 4096 := by
    obtain ⟨h1, _⟩ := checkD_ok he
    have h2 := (headD_ok h1).2.2.2.2
    have h3 := cntF_le hk
    have h4 := numSs_cnt (nthF p.funcs k).body
    omega
  have HWF := Lib.hid hp.wfs
  clear hp ht
  obtain ⟨x0, x1⟩ := X0.c2
  have hck : ∀ W, PrOk W W.heap.size p wa fa → Calls Tryd.prog 12 #[prV p wa fa uc vc] W fun e W' => e = .returned (.agg #[.int .i64 0, .int .i64 0, .int .i64 0]) ∧ Below W.heap.size W W' := fun W h => by
    have := checkP p wa fa uc vc _ W (Nat.le_refl _) h
    rwa [checkD_ok_eq he] at this
  have HCK0 := Lib.hid hck
  have HE := Lib.hid he
  have n0 : ((p.funcs.length : Int) == 0) = false := by rw [beq_eq_false_iff_ne]; omega
  have n1 : decide ((k : Int) < 0) = false := by simp
  have n2 : decide ((p.funcs.length : Int) ≤ (k : Int)) = false := by simp; omega
  have n3 : decide ((t : Int) < 1) = false := by simp; omega
  clear hck he
  go_enter Tryd.func8, Tryd.ntmps8
  (try simp only [List.append_eq, List.cons_append, List.nil_append])
  go_upto_region 3 with (go_at_call 11; go_must (refine HA.out.mono ?_; rintro e w1 ⟨rfl, hb1⟩; have X1 := X0.below' hb1; have K1 := below_step K0 hb1; clear x0 x1; obtain ⟨x0, x1⟩ := X1.c2; have lx1 := X1.lt))
  go_upto_region 4 with (go_at_call 12; go_must (refine (HCK0.out w1 (HP.out.step K1)).mono ?_; rintro e w2 ⟨rfl, hb2⟩; have X2 := X1.below' hb2; have K2 := below_step K1 hb2; clear x0 x1; obtain ⟨x0, x1⟩ := X2.c2; have lx2 := X2.lt))
  have X3 := X2.alloc (.cells (#[.int .i64 0, .int .i64 0, .int .i64 0]) 29)
  have K3 := below_alloc K2 (.cells (#[.int .i64 0, .int .i64 0, .int .i64 0]) 29)
  have F3 := Whl.new w2 29 (#[.int .i64 0, .int .i64 0, .int .i64 0])
  generalize w2.alloc (.cells (#[.int .i64 0, .int .i64 0, .int .i64 0]) 29) = v3 at F3 X3 K3 ⊢
  obtain ⟨f0, f1, f2⟩ := F3.c3
  clear x0 x1
  obtain ⟨x0, x1⟩ := X3.c2
  have lf := F3.lt
  have lx := X3.lt
  clear X0 X1 X2 K0 K1 K2 hb1 hb2 F3 lx1 lx2
  go_upto_region 9 with (go_at_call 19; go_must (refine (copyR p wa fa uc vc v3.heap.size v3 (Nat.le_refl _) (HP.out.step K3)).mono ?_; rintro e w4 ⟨gw, gf, gp, gb, lb, hb, rfl, own, hb4⟩; have X4 := X3.below' hb4; have K4 := below_step K3 hb4; clear x0 x1; obtain ⟨x0, x1⟩ := X4.c2))
  clear n0 n1 n2 n3 f0 f1 f2 lf
  have hlow := own.low
  have hgl := own.lt
  have hgf := own.frow.lt
  have hinto := own.into
  have HIN := Lib.hid hinto
  have hs4 := hb4.size
  have hsw := K3.size
  have O5 := Whl.new w4 26 (prC p (some ⟨gw, 0, none⟩) (some ⟨gf, 0, none⟩) (p.widen.length + 1) (p.funcs.length + 1))
  have X5 := X4.alloc (.cells (prC p (some ⟨gw, 0, none⟩) (some ⟨gf, 0, none⟩) (p.widen.length + 1) (p.funcs.length + 1)) 26)
  have K5 := below_alloc K4 (.cells (prC p (some ⟨gw, 0, none⟩) (some ⟨gf, 0, none⟩) (p.widen.length + 1) (p.funcs.length + 1)) 26)
  have OW5 := own.below (below_alloc (Below.refl _ _) (.cells (prC p (some ⟨gw, 0, none⟩) (some ⟨gf, 0, none⟩) (p.widen.length + 1) (p.funcs.length + 1)) 26))
  have hs5 : (w4.alloc (.cells (prC p (some ⟨gw, 0, none⟩) (some ⟨gf, 0, none⟩) (p.widen.length + 1) (p.funcs.length + 1)) 26)).heap.size = w4.heap.size + 1 := by simp
  generalize w4.alloc (.cells (prC p (some ⟨gw, 0, none⟩) (some ⟨gf, 0, none⟩) (p.widen.length + 1) (p.funcs.length + 1)) 26) = v5 at O5 X5 K5 OW5 hs5 ⊢
  obtain ⟨B, hB⟩ : ∃ B, B = w4.heap.size := ⟨_, rfl⟩
  rw [← hB] at hgf HIN O5 hs5 ⊢
  have hB2 : v3.heap.size ≤ B := by omega
  have hB3 : B < v5.heap.size := by omega
  have hlo : w.heap.size < B := by have := X3.lt; omega
  clear own hinto hs4 hs5 X3 X4 K4 hb4 hB
  have N6 := Whl.new v5 3 #[.int .i64 0]
  have O6 := O5.alloc (.cells #[.int .i64 0] 3)
  have X6 := X5.alloc (.cells #[.int .i64 0] 3)
  have K6 := below_alloc K5 (.cells #[.int .i64 0] 3)
  have OW6 := OW5.below (below_alloc (Below.refl _ _) (.cells #[.int .i64 0] 3))
  go_upto_region 10 with fail
  generalize v5.alloc (.cells #[.int .i64 0] 3) = v6 at N6 O6 X6 K6 OW6 ⊢
  obtain ⟨bx, hbx⟩ : ∃ bx, bx = v5.heap.size := ⟨_, rfl⟩
  rw [← hbx] at N6 ⊢
  have hbB : B < bx := by omega
  have hl6 := N6.lt
  clear hbx X5 O5 K5 OW5 hB3
  obtain ⟨o0, o1⟩ := O6.c2
  have lo6 := O6.lt
  have lf6 := OW6.frow.lt
  have ik := HIN.out k hk
  have cc : v6.cell? ⟨gf, k * 3 + 2, none⟩ = some (.slice (some ⟨gb k, 0, none⟩) (nthF p.funcs k).body.length ((nthF p.funcs k).body.length + 1)) := (OW6.frow.cell _).trans (by
    rw [List.getElem?_toArray, List.getElem?_append_left (by rw [fnRow_len]; omega)]
    exact fnRow_get (j := 2) hk (by omega))
  have hle := (OW6.one k hk).body.le
  have HTN := Lib.hid (turnedN w w.heap.size _ (nthF p.funcs k).body (lb k) (hb k) (gb k) bx 0 t 0 (t : Int) v6 (Nat.lt_succ_self _) (HWF.out.body k hk) (OW6.one k hk).body (by omega) (by omega) rfl N6 (by omega) (by omega))
  have HN6 := Lib.hid N6
  clear N6
  go_upto_region 11 with (go_at_call 21; go_must (refine HTN.out.mono ?_; rintro e w7 ⟨rfl, s7, b7, m7⟩))
  rw [Nat.zero_add] at b7
  have X7 := m7.whl X6 (by omega)
  have O7 := m7.whl O6 (by omega)
  have K7 := m7.step K6 (fun b _ hb => by omega)
  have OW7 := OW6.brk hk s7 m7 (fun j hj => by have := HIN.out j hj; omega) (by omega)
  have bn : w7.cell? ⟨bx, 0, none⟩ = some (.int .i64 (numSs (nthF p.funcs k).body : Int)) := b7.cell 0
  clear x0 x1 o0 o1
  obtain ⟨x0, x1⟩ := X7.c2
  obtain ⟨o0, o1⟩ := O7.c2
  have lx7 := X7.lt
  have lo7 := O7.lt
  have lb7 := b7.lt
  clear X6 O6 K6 OW6 HN6 HTN s7 b7 m7 cc lo6 lf6 hl6
  by_cases hq : numSs (nthF p.funcs k).body < t
  · have hq1 : decide ((numSs (nthF p.funcs k).body : Int) < (t : Int)) = true := by simpa using hq
    have OWp := OW7
    rw [brkP_none hq] at OWp
    have hsm : Calls Tryd.prog 18 #[prV p (some ⟨gw, 0, none⟩) (some ⟨gf, 0, none⟩) (p.widen.length + 1) (p.funcs.length + 1), prV p wa fa uc vc] w7 fun e W' => e = .returned (.bool true) ∧ Below w7.heap.size w7 W' := by
      have := sameCall p p _ _ wa fa (p.widen.length + 1) (p.funcs.length + 1) uc vc _ w7 (Nat.le_refl _) (OWp.okw HWF.out) (HP.out.step K7)
      rwa [sameP_self] at this
    have HSM := Lib.hid hsm
    clear hsm OWp OW7
    go_wp2_with (go_at_call 18; go_must (refine HSM.out.mono ?_; rintro e w8 ⟨rfl, hb8⟩))
    go_ret
    exact ⟨rfl, below_step K7 hb8⟩
  · have hq1 : decide ((numSs (nthF p.funcs k).body : Int) < (t : Int)) = false := by simp; omega
    have hq2 : t ≤ numSs (nthF p.funcs k).body := by omega
    have HQ := Lib.hid hq2
    have hq3 : decide (numSs (nthF p.funcs k).body < t) = false := by simp; omega
    have hq4 : ¬ numSs (nthF p.funcs k).body < t := hq
    clear hq hq2
    have HCK : Hid (∀ W i lo, PrOwn W lo (brkP p k t i) gw gf gp gb lb hb → Calls Tryd.prog 12 #[.agg (prC p (some ⟨gw, 0, none⟩) (some ⟨gf, 0, none⟩) (p.widen.length + 1) (p.funcs.length + 1))] W fun e W' => e = .returned (.agg #[.int .i64 5, .int .i64 (k : Int), .int .i64 (t : Int)]) ∧ Below W.heap.size W W') := Lib.hid fun W i lo h => by
      have := checkP (brkP p k t i) _ _ (p.widen.length + 1) (p.funcs.length + 1) _ W (Nat.le_refl _) (h.okw (HWF.out.brk k t i))
      rw [(brkP_check HE.out hk htt HQ.out).1] at this
      rw [prV, brkP_len] at this
      exact this
    have HPT : Hid (∀ W i lo, PrOwn W lo (brkP p k t i) gw gf gp gb lb hb → Pow10 W → ∃ S, Calls Tryd.prog 20 #[.agg (prC p (some ⟨gw, 0, none⟩) (some ⟨gf, 0, none⟩) (p.widen.length + 1) (p.funcs.length + 1))] W fun e W' => e = .returned (.tuple #[.string S, .agg #[.int .i64 5, .int .i64 (k : Int), .int .i64 (t : Int)]]) ∧ Below W.heap.size W W') := Lib.hid fun W i lo h h2 => by
      have := printP (brkP p k t i) _ _ (p.widen.length + 1) (p.funcs.length + 1) _ W (Nat.le_refl _) (h.okw (HWF.out.brk k t i)) h2
      have hc := (brkP_check (i := i) HE.out hk htt HQ.out).1
      rw [print_fault (by rw [hc]; exact (by decide : (5 : Int) ≠ 0)), hc] at this
      rw [prV, brkP_len] at this
      exact ⟨_, this⟩
    have HSM : Hid (∀ W i lo, PrOwn W lo (brkP p k t i) gw gf gp gb lb hb → PrOk W W.heap.size p wa fa → Calls Tryd.prog 18 #[.agg (prC p (some ⟨gw, 0, none⟩) (some ⟨gf, 0, none⟩) (p.widen.length + 1) (p.funcs.length + 1)), prV p wa fa uc vc] W fun e W' => e = .returned (.bool false) ∧ Below W.heap.size W W') := Lib.hid fun W i lo h h2 => by
      have := sameCall (brkP p k t i) p _ _ wa fa (p.widen.length + 1) (p.funcs.length + 1) uc vc _ W (Nat.le_refl _) (h.okw (HWF.out.brk k t i)) h2
      have hne := (brkP_check (i := i) HE.out hk htt HQ.out).2
      have hs : sameP (brkP p k t i) p = false := by
        cases hs : sameP (brkP p k t i) p with
        | false => rfl
        | true => exact absurd ((sameP_iff _ _).1 hs) hne
      rw [hs] at this
      rw [prV, brkP_len] at this
      exact this
    go_upto_region 14 with fail
    have V8 := Whl.new w7 29 (#[.int .i64 5, .int .i64 (k : Int), .int .i64 (t : Int)])
    have X8 := X7.alloc (.cells (#[.int .i64 5, .int .i64 (k : Int), .int .i64 (t : Int)]) 29)
    have O8 := O7.alloc (.cells (#[.int .i64 5, .int .i64 (k : Int), .int .i64 (t : Int)]) 29)
    have K8 := below_alloc K7 (.cells (#[.int .i64 5, .int .i64 (k : Int), .int .i64 (t : Int)]) 29)
    have OW8 := OW7.below (below_alloc (Below.refl _ _) (.cells (#[.int .i64 5, .int .i64 (k : Int), .int .i64 (t : Int)]) 29))
    generalize w7.alloc (.cells (#[.int .i64 5, .int .i64 (k : Int), .int .i64 (t : Int)]) 29) = v8 at V8 X8 O8 K8 OW8 ⊢
    obtain ⟨wb, hwb⟩ : ∃ wb, wb = w7.heap.size := ⟨_, rfl⟩
    rw [← hwb] at V8 ⊢
    have hwB : bx < wb := by omega
    clear hwb X7 O7 K7 OW7 x0 x1 o0 o1 bn lx7 lo7 lb7 hq1 hq3 hq4
    obtain ⟨x0, x1⟩ := X8.c2
    obtain ⟨o0, o1⟩ := O8.c2
    obtain ⟨q0, q1, q2⟩ := V8.c3
    have lx8 := X8.lt
    have lo8 := O8.lt
    have lv8 := V8.lt
    go_region_held3 (fun w' => w'.cell? ⟨B, 0, none⟩ = some (.slice (some ⟨gw, 0, none⟩) p.widen.length (p.widen.length + 1)) ∧ w'.cell? ⟨B, 1, none⟩ = some (.slice (some ⟨gf, 0, none⟩) p.funcs.length (p.funcs.length + 1)) ∧ w'.cell? ⟨wb, 0, none⟩ = some (.int .i64 5) ∧ w'.cell? ⟨wb, 1, none⟩ = some (.int .i64 (k : Int)) ∧ w'.cell? ⟨wb, 2, none⟩ = some (.int .i64 (t : Int)))
      (first | exact ⟨O9.cell 0, O9.cell 1, V9.cell 0, V9.cell 1, V9.cell 2⟩ | exact ⟨O8.cell 0, O8.cell 1, V8.cell 0, V8.cell 1, V8.cell 2⟩ | (go_simp; done))
      ((go_at_call 12; refine (HCK.out v8.drew _ _ (OW8.below (Below.refl _ _).drew)).mono ?_; rintro e w9 ⟨rfl, hb9⟩; have X9 := X8.drew.below' hb9; have O9 := O8.drew.below' hb9; have V9 := V8.drew.below' hb9; have K9 := below_step K8.drew hb9; have OW9 := (OW8.below ((Below.refl _ _).drew)).below hb9))
    have hs9 := hb9.size
    clear X8 O8 V8 K8 OW8 hb9 x0 x1 o0 o1 q0 q1 q2 lx8 lo8 lv8
    have lo9 := O9.lt
    have lv9 := V9.lt
    obtain ⟨o0, o1⟩ := O9.c2
    have hwr : IntKind.i64.wrap ((k : Int) + 1) = (k : Int) + 1 := IntWalk.i64_in _ (by omega)
    go_wp2
    clear o0 o1
    go_loopw [11] (fun v W => ∃ i : Nat, k < i ∧ i ≤ p.funcs.length ∧ v = .int .i64 i ∧ Hid (PrOwn W v3.heap.size (brkP p k t i) gw gf gp gb lb hb) ∧ Whl W w.heap.size 26 (prC p wa fa uc vc) ∧ Whl W B 26 (prC p (some ⟨gw, 0, none⟩) (some ⟨gf, 0, none⟩) (p.widen.length + 1) (p.funcs.length + 1)) ∧ Whl W wb 29 (#[.int .i64 5, .int .i64 (k : Int), .int .i64 (t : Int)]) ∧ Hid (Below w.heap.size w W)) (fun v _ => p.funcs.length - (intOf v).toNat)
    case atStart => exact ⟨k + 1, by omega, by omega, by go_num, Lib.hid OW9, X9, O9, V9, Lib.hid K9⟩
    case round =>
      clear X9 O9 V9 K9 OW9 lo9 lv9 hs9 hwr
      obtain ⟨i, hki, hi, rfl, HOW, XX9, OO9, VV9, HK9⟩ := hrel
      obtain ⟨x0, x1⟩ := XX9.c2
      obtain ⟨o0, o1⟩ := OO9.c2
      have lx9 := XX9.lt
      have lo9 := OO9.lt
      have lv9 := VV9.lt
      have lf9 := HOW.out.frow.lt
      by_cases hlt : i < p.funcs.length
      · have cn : wr.cell? ⟨gf, i * 3, none⟩ = some (.string (brkF p k t i i).name) := (HOW.out.frow.cell _).trans (by
          rw [List.getElem?_toArray, List.getElem?_append_left (by rw [fnRow_len, brkP_len]; omega)]
          have := fnRow_get (l := (brkP p k t i).funcs) (gp := gp) (gb := gb) (n := (brkP p k t i).funcs.length) (k := i) (j := 0) (by rw [brkP_len]; exact hlt) (by omega)
          rw [brkP_nth hlt] at this
          exact this)
        have zn : wr.frozen? ⟨gf, i * 3, none⟩ = false := HOW.out.frow.frozen _
        have OW10 := Lib.hid (HOW.out.named hki hlt)
        have X10 := Lib.hid (XX9.far (p := ⟨gf, i * 3, none⟩) (by simp only; omega) (.string inName))
        have O10 := Lib.hid (OO9.far (p := ⟨gf, i * 3, none⟩) (by simp only; omega) (.string inName))
        have V10 := Lib.hid (VV9.far (p := ⟨gf, i * 3, none⟩) (by simp only; omega) (.string inName))
        have K10 := Lib.hid (((Mod.refl (fun b => b = gf) wr).setCell (p := ⟨gf, i * 3, none⟩) rfl (.string inName)).step HK9.out (fun b _ hb => by omega))
        have hwr : IntKind.i64.wrap ((i : Int) + 1) = (i : Int) + 1 := IntWalk.i64_in _ (by omega)
        clear XX9 OO9 VV9
        go_wp2
        go_roundw
        case rel =>
          have hfin := (⟨i + 1, by omega, by omega, by go_num, OW10, X10.out, O10.out, V10.out, K10⟩ : ∃ i' : Nat, k < i' ∧ i' ≤ p.funcs.length ∧ Value.int .i64 ((i : Int) + 1) = .int .i64 i' ∧ Hid (PrOwn (wr.setCell ⟨gf, i * 3, none⟩ (.string inName)) v3.heap.size (brkP p k t i') gw gf gp gb lb hb) ∧ Whl (wr.setCell ⟨gf, i * 3, none⟩ (.string inName)) w.heap.size 26 (prC p wa fa uc vc) ∧ Whl (wr.setCell ⟨gf, i * 3, none⟩ (.string inName)) B 26 (prC p (some ⟨gw, 0, none⟩) (some ⟨gf, 0, none⟩) (p.widen.length + 1) (p.funcs.length + 1)) ∧ Whl (wr.setCell ⟨gf, i * 3, none⟩ (.string inName)) wb 29 (#[.int .i64 5, .int .i64 (k : Int), .int .i64 (t : Int)]) ∧ Hid (Below w.heap.size w (wr.setCell ⟨gf, i * 3, none⟩ (.string inName))))
          first | exact hfin | ((repeat apply Exists.intro); exact ⟨hfin, rfl⟩)
        case measure => first | (simp [intOf]; done) | (simp [intOf]; omega)
      · obtain rfl : i = p.funcs.length := by omega
        obtain ⟨S, hpr⟩ := HPT.out wr _ _ HOW.out (HT.out.step HK9.out)
        have HPR := Lib.hid hpr
        clear hpr
        go_upto_region 21 with (go_at_call 20; go_must (refine HPR.out.mono ?_; rintro e w11 ⟨rfl, hb11⟩; have X11 := XX9.below' hb11; have O11 := OO9.below' hb11; have V11 := VV9.below' hb11; have OW11 := HOW.out.below hb11; have K11 := below_step HK9.out hb11))
        have G12 := Whl.new w11 29 (#[.int .i64 5, .int .i64 (k : Int), .int .i64 (t : Int)])
        have X12 := X11.alloc (.cells (#[.int .i64 5, .int .i64 (k : Int), .int .i64 (t : Int)]) 29)
        have O12 := O11.alloc (.cells (#[.int .i64 5, .int .i64 (k : Int), .int .i64 (t : Int)]) 29)
        have V12 := V11.alloc (.cells (#[.int .i64 5, .int .i64 (k : Int), .int .i64 (t : Int)]) 29)
        have K12 := below_alloc K11 (.cells (#[.int .i64 5, .int .i64 (k : Int), .int .i64 (t : Int)]) 29)
        have OW12 := OW11.below (below_alloc (Below.refl _ _) (.cells (#[.int .i64 5, .int .i64 (k : Int), .int .i64 (t : Int)]) 29))
        generalize w11.alloc (.cells (#[.int .i64 5, .int .i64 (k : Int), .int .i64 (t : Int)]) 29) = v12 at G12 X12 O12 V12 K12 OW12 ⊢
        obtain ⟨gx, hgx⟩ : ∃ gx, gx = w11.heap.size := ⟨_, rfl⟩
        rw [← hgx] at G12 ⊢
        clear hgx x0 x1 o0 o1 XX9 OO9 VV9 X11 O11 V11 OW11 K11 hb11 lx9 lo9 lv9 lf9
        obtain ⟨x0, x1⟩ := X12.c2
        obtain ⟨o0, o1⟩ := O12.c2
        obtain ⟨q0, q1, q2⟩ := V12.c3
        obtain ⟨g0, g1, g2⟩ := G12.c3
        have lx12 := X12.lt
        have lo12 := O12.lt
        have lv12 := V12.lt
        have lg12 := G12.lt
        go_region_held3 (fun w' => w'.cell? ⟨w.heap.size, 0, none⟩ = some (.slice wa p.widen.length uc) ∧ w'.cell? ⟨w.heap.size, 1, none⟩ = some (.slice fa p.funcs.length vc) ∧ w'.cell? ⟨B, 0, none⟩ = some (.slice (some ⟨gw, 0, none⟩) p.widen.length (p.widen.length + 1)) ∧ w'.cell? ⟨B, 1, none⟩ = some (.slice (some ⟨gf, 0, none⟩) p.funcs.length (p.funcs.length + 1)) ∧ w'.cell? ⟨wb, 0, none⟩ = some (.int .i64 5) ∧ w'.cell? ⟨wb, 1, none⟩ = some (.int .i64 (k : Int)) ∧ w'.cell? ⟨wb, 2, none⟩ = some (.int .i64 (t : Int)) ∧ w'.cell? ⟨gx, 0, none⟩ = some (.int .i64 5) ∧ w'.cell? ⟨gx, 1, none⟩ = some (.int .i64 (k : Int)) ∧ w'.cell? ⟨gx, 2, none⟩ = some (.int .i64 (t : Int)))
          (first | exact ⟨X14.cell 0, X14.cell 1, O14.cell 0, O14.cell 1, V14.cell 0, V14.cell 1, V14.cell 2, G14.cell 0, G14.cell 1, G14.cell 2⟩ | exact ⟨X13.cell 0, X13.cell 1, O13.cell 0, O13.cell 1, V13.cell 0, V13.cell 1, V13.cell 2, G13.cell 0, G13.cell 1, G13.cell 2⟩ | exact ⟨X12.cell 0, X12.cell 1, O12.cell 0, O12.cell 1, V12.cell 0, V12.cell 1, V12.cell 2, G12.cell 0, G12.cell 1, G12.cell 2⟩ | (go_simp; done))
          (first
            | (go_at_call 12; refine (HCK.out v12.drew _ _ (OW12.below (Below.refl _ _).drew)).mono ?_; rintro e w13 ⟨rfl, hb13⟩; have X13 := X12.drew.below' hb13; have O13 := O12.drew.below' hb13; have V13 := V12.drew.below' hb13; have G13 := G12.drew.below' hb13; have K13 := below_step K12.drew hb13; have OW13 := (OW12.below ((Below.refl _ _).drew)).below hb13)
            | (go_at_call 18; refine (HSM.out w13 _ _ OW13 (HP.out.step K13)).mono ?_; rintro e w14 ⟨rfl, hb14⟩; have X14 := X13.below' hb14; have O14 := O13.below' hb14; have V14 := V13.below' hb14; have G14 := G13.below' hb14; have K14 := below_step K13 hb14))
        go_wp2
        go_ret
        exact ⟨rfl, K14⟩
theorem breaksL (p : PrD) (wa fa : Option Addr) (uc vc : Nat) (fn at_ : Int) (w : World) (hp : PrOk w w.heap.size p wa fa) (ht : Pow10 w) (hat : In64 at_) :
    Calls Tryd.prog 8 #[prV p wa fa uc vc, .int .i64 fn, .int .i64 at_] w fun e w' => e = .returned (.bool true) ∧ Below w.heap.size w w' := by
  by_cases he : (checkD p).e = 0
  · by_cases hout : p.funcs.length = 0 ∨ fn < 0 ∨ (p.funcs.length : Int) ≤ fn ∨ at_ < 1
    · exact breaks_out p wa fa uc vc fn at_ w hp ht he hout
    · obtain ⟨k, rfl⟩ : ∃ k : Nat, fn = k := ⟨fn.toNat, by omega⟩
      obtain ⟨t, rfl⟩ : ∃ t : Nat, at_ = t := ⟨at_.toNat, by omega⟩
      exact breaks_in p wa fa uc vc k t w hp ht he (by omega) (by omega) hat
  · exact breaks_bad p wa fa uc vc fn at_ w hp ht he
end Go.Proofs.YtdddppmfeoebgaaDoor
