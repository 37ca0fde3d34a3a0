/-
  Layer 7 (wide): the walk of the reference's Add.
-/
import Derived.Test.YtofibaomjidieaaDoorCarried
import Derived.Deep.RegionLaw
namespace Go.Proofs.YtofibaomjidieaaDoor
open Go.RowKit
set_option linter.unusedSimpArgs false
set_option linter.unusedVariables false
theorem OMem.drew {w W : World} {B : Nat} {v : Value} {l : List Nat} (h : OMem w B v l W) : OMem w B v l W.drew := ⟨h.below.drew, h.own.drew, h.size, h.base⟩
theorem Whl.two {w : World} {g : Nat} {t : TypeId} {u v : Value} (h : Whl w g t #[u, v]) : w.cell? ⟨g, 0, none⟩ = some u ∧ w.cell? ⟨g, 1, none⟩ = some v ∧ w.frozen? ⟨g, 0, none⟩ = false ∧ w.frozen? ⟨g, 1, none⟩ = false := ⟨h.cell 0, h.cell 1, h.frozen 0, h.frozen 1⟩
def sumD (x y : List Nat) (k : Nat) : List Nat := (List.range k).map fun i => nth x i + nth y i
theorem sumD_len (x y : List Nat) (k : Nat) : (sumD x y k).length = k := by simp [sumD]
theorem sumD_succ (x y : List Nat) (k : Nat) : sumD x y (k + 1) = sumD x y k ++ [nth x k + nth y k] := by simp [sumD, List.range_succ]
theorem sumD_val (x y : List Nat) (k : Nat) (hx : k ≤ x.length) (hy : k ≤ y.length) : valD (sumD x y k) = valD (x.take k) + valD (y.take k) := by
  induction k with
  | zero => simp [sumD, valD]
  | succ k ih => rw [sumD_succ, valD_snoc, ih (by omega) (by omega), sumD_len, val_take (by omega), val_take (by omega), Nat.mul_add]; omega
theorem sumD_nth (x y : List Nat) (k j : Nat) (hj : j < k) : nth (sumD x y k) j = nth x j + nth y j := by simp [sumD, nth, hj]
set_option maxHeartbeats 16000000 in
set_option maxRecDepth 100000 in
theorem addR (a b : Wd) (ha : a.Wf) (hb : b.Wf) (w : World) : Calls Tryd.prog 12 #[a.v, b.v] w fun e w' => e = .returned (.tuple #[(wdOf (a.val + b.val)).v, .bool (fits2 (a.val + b.val))]) ∧ Below w.heap.size w w' := by
  obtain ⟨i0, hi, hz0, hz1, hz2⟩ := info_parts infoU
  have hva := valD_digsW ha
  have hvb := valD_digsW hb
  have hna := digsW_len a
  have hnb := digsW_len b
  have hda := digsW_digs a
  have hdb := digsW_digs b
  have HD1 := fun w => digitsR a ha w
  have HD2 := fun w => digitsR b hb w
  rw [show digsOf a.lo 4 ++ digsOf a.hi 4 = digsW a from rfl] at HD1
  rw [show digsOf b.lo 4 ++ digsOf b.hi 4 = digsW b from rfl] at HD2
  generalize digsW a = x at *
  generalize digsW b = y at *
  have HV := Lib.hid (And.intro hva hvb)
  clear hva hvb
  have HX := Lib.hid HD1
  have HY := Lib.hid HD2
  clear HD1 HD2
  go_enter Tryd.func12, Tryd.ntmps12
  go_wp2_with (first
    | (go_at_call 28; with_reducible refine (HX.out _).mono ?_; rintro e w1 ⟨v1, rfl, hM1⟩; obtain ⟨hcc1, hff1⟩ := bcell hM1.below; have hs1 := hM1.below.size; (try simp at hs1); have l1a : w.heap.size < w1.heap.size := (by omega); have l1b : w.heap.size + 1 < w1.heap.size := (by omega); have l1c : w.heap.size + 1 + 1 < w1.heap.size := (by omega))
    | (go_at_call 28; with_reducible refine (HY.out _).mono ?_; rintro e w2 ⟨v2, rfl, hM2⟩))
  have B1 : Below w.heap.size w w1 := below_step (below_alloc (below_alloc (below_alloc (Below.refl _ _) _) _) _) hM1.below
  have R1 : Whl w1 (w.heap.size + 1 + 1) 24 #[.int .u64 0, .int .u64 0] := (Whl.new2 _ _ _ _ _).below' hM1.below
  obtain ⟨g1, c1, rfl, hg1, X1⟩ := hM1.row (by omega)
  obtain ⟨g2, c2, rfl, hg2, Y2⟩ := hM2.row (by omega)
  have B2 : Below w.heap.size w w2 := below_step B1 hM2.below
  have R2 := R1.below' hM2.below
  have X2 := X1.go hM2.below X1.lt
  rw [hna, hnb]
  clear hM1 hM2 hcc1 hff1 B1 R1 X1 hs1 hg1 hg2 HX HY l1a l1b l1c
  have hgx := X2.lt
  have hgy := Y2.lt
  have hgr := R2.lt
  go_loopw [8, 9] (fun v i wr => ∃ k : Nat, k ≤ 8 ∧ i = .int .i64 k ∧ OMem w2 w2.heap.size v (sumD x y k) wr) (fun _ i _ => 8 - (intOf i).toNat)
  case atStart =>
    refine ⟨0, by omega, rfl, below_alloc (Below.refl _ _) _, ?_, by simp, Nat.le_refl _⟩
    exact World.ownsRow_made (base := w2.heap.size) (e := 22) (size := 1) w2 #[] 0 (Nat.le_refl _) (by decide) rfl
  case round =>
    obtain ⟨k, hk, rfl, hM⟩ := hrel
    have X3 := X2.go hM.below hgx
    have Y3 := Y2.go hM.below hgy
    have l1 := X3.lt
    have l2 := Y3.lt
    by_cases hlt : k < 8
    · have cx := X3.at_ k (by omega)
      have cy := Y3.at_ k (by omega)
      have hS := sumD_succ x y k
      have hL := sumD_len x y k
      have hx2 := nth_lt hda k
      have hy2 := nth_lt hdb k
      generalize nth x k = xk at *
      generalize nth y k = yk at *
      obtain ⟨n, hn⟩ : ∃ n, xk + yk = n := ⟨_, rfl⟩
      have s0 : (xk : Int) + (yk : Int) = (n : Int) := by omega
      have s1 : IntKind.u64.wrap (n : Int) = (n : Int) := by rw [IntKind.wrap_u64]; omega
      rw [hn] at hS
      have HN := Lib.hid hn
      clear hn
      go_wp2
      go_region_law (
        refine step_append_lies _ rfl _ _ _ rfl w2.heap.size 22 i0 (.int .u64 0) 1 8 Tryd.underlying47 hi hz0 hz1 hz2 rfl (by decide) _ _ _ rfl (hM.own.drew.alloc _) ⟨wr.heap.size, 0, none⟩ 1 1 [.int .u64 (n : Int)] rfl rfl (cell_one_new wr.drew (.int .u64 (n : Int)) 22) (by simp [Value.oneCell']) (by decide) (by unfold maxLen; omega) (by omega) (by simp; have := hM.size; omega) _ rfl ?_
        intro g cap w3 hown hgrow hat hlt2
        have hM2 := hM.drew.app hgrow rfl rfl hown
        rw [← hS] at hM2
        simp only [hL] at hM2)
      all_goals go_wp2
      all_goals refine ⟨⟨k + 1, by omega, by go_num, hM2⟩, by simp [intOf]; omega⟩
    · obtain rfl : k = 8 := by omega
      obtain ⟨g3, c3, rfl, hg3, S3⟩ := hM.row (by rw [sumD_len]; decide)
      have hnn := fun j (hj : j < 8) => sumD_nth x y 8 j hj
      have hvv := sumD_val x y 8 (by omega) (by omega)
      rw [← hna, List.take_length, hna, ← hnb, List.take_length, hnb] at hvv
      have hll := sumD_len x y 8
      generalize sumD x y 8 = s at *
      have hC := fun w h => carriedR g3 c3 s w (by omega) (fun j hj => by rw [hnn j (by omega)]; have := nth_lt hda j; have := nth_lt hdb j; omega) h
      have B3 := below_step B2 hM.below
      have R3 := R2.below hM.below hgr
      have hgr3 := R3.lt
      have HC := Lib.hid hC
      clear hC
      rw [hll] at HC ⊢
      go_wp2_with (first
        | (go_at_call 30; with_reducible refine (HC.out _ S3).mono ?_; rintro e w4 ⟨v4, L, rfl, hM4, hD4, hV4, hL4, hL5⟩; obtain ⟨g4, c4, rfl, hg4, S4⟩ := hM4.row (by omega))
        | (go_at_call 29; with_reducible refine (numberR g4 c4 L _ (by omega) (by omega) hD4 S4).mono ?_; rintro e w5 ⟨rfl, hb5⟩; have R5 := (R3.below' hM4.below).below' hb5; obtain ⟨q0, q1, f0, f1⟩ := R5.two))
      refine ret_of ?_ rfl
      refine ⟨.tuple #[(wdOf (valD L)).v, .bool (fits2 (valD L))], ?_, by rw [hV4, hvv, HV.out.1, HV.out.2], ?_⟩
      · have z := (R5.put 0 (.int .u64 ((wdOf (valD L)).hi : Int))).put 1 (.int .u64 ((wdOf (valD L)).lo : Int))
        rw [hV4, hvv] at z ⊢
        simp [results, Tryd.results12, go_sem, z.cell]
      · have B5 := below_step (below_step B3 hM4.below) hb5
        repeat (first | exact B5 | with_reducible apply Below.drew | with_reducible apply below_alloc | (with_reducible refine Below.setCell ?_ (by simp <;> omega) _))
end Go.Proofs.YtofibaomjidieaaDoor
