/-
  Layer 7 (wide): the walk of the reference's product of two rows of eight digits.
-/
import Derived.Test.YtofibaomjidieaaDoorProdP
namespace Go.Proofs.YtofibaomjidieaaDoor
open Go.RowKit
set_option linter.unusedSimpArgs false
set_option linter.unusedVariables false
theorem OMem.cell {w W : World} {B g c j : Nat} {l : List Nat} (h : OMem w B (.slice (some ⟨g, 0, none⟩) l.length c) l W) (hj : j < l.length) : W.cell? ⟨g, j, none⟩ = some (.int .u64 (nth l j : Int)) ∧ W.frozen? ⟨g, j, none⟩ = false := by
  refine ⟨?_, h.own.frozenAt j⟩
  rw [h.own.cellAt j (by omega)]
  simp [U64s, nth, hj]
theorem mk16 (w : World) : (Instr.makeSlice 47 (.int .i64 16) (.int .i64 16)).run Tryd.prog w = .ok (.slice (some ⟨w.heap.size, 0, none⟩) 16 16) (w.alloc (.cells (U64s (List.replicate 16 0)).toArray 22)) := by kernel_rfl
theorem own16 (w W : World) (hb : Below w.heap.size w W) : OMem w W.heap.size (.slice (some ⟨W.heap.size, 0, none⟩) (List.replicate 16 0).length 16) (List.replicate 16 0) (W.alloc (.cells (U64s (List.replicate 16 0)).toArray 22)) :=
  ⟨below_alloc hb _, World.ownsRow_lit W _ 16 (Nat.le_refl _) (by decide) (by simp [U64s]), by simp, hb.size⟩
set_option maxHeartbeats 16000000 in
set_option maxRecDepth 100000 in
theorem productR (gx cx gy cy : Nat) (x y : List Nat) (w : World) (hxl : x.length = 8) (hyl : y.length = 8) (hdx : Digs x) (hdy : Digs y) (X : DRow w gx x) (Y : DRow w gy y) :
    Calls Tryd.prog 31 #[.slice (some ⟨gx, 0, none⟩) 8 cx, .slice (some ⟨gy, 0, none⟩) 8 cy] w fun e w' => ∃ v L, e = .returned v ∧ OMem w w.heap.size v L w' ∧ Digs L ∧ valD L = valD x * valD y ∧ 16 ≤ L.length ∧ L.length ≤ 48 := by
  have hgx := X.lt
  have hgy := Y.lt
  obtain ⟨i0, hi, hz0, hz1, hz2⟩ := info_parts infoU
  have hmk := mk16
  go_enter Tryd.func31, Tryd.ntmps31
  go_wp2
  go_loopw [5, 6] (fun v i wr => ∃ k : Nat, ∃ L : List Nat, k ≤ 8 ∧ i = .int .i64 k ∧ OMem w w.heap.size v L wr ∧ Digs L ∧ valD L = valD (x.take k) * valD y ∧ 16 ≤ L.length ∧ L.length ≤ 16 + 4 * k) (fun _ i _ => 8 - (intOf i).toNat)
  case atStart =>
    exact ⟨0, List.replicate 16 0, by omega, rfl, own16 w w (Below.refl _ _), fun d hd => by rw [(List.mem_replicate.1 hd).2]; decide, by rw [valD_replicate]; simp [valD], by simp, by simp⟩
  case round =>
    obtain ⟨i, L, hi8, rfl, hM, hD, hV, hl1, hl2⟩ := hrel
    obtain ⟨go, co, rfl, hgo, hO⟩ := hM.row (by omega)
    generalize wr = W1 at *
    by_cases hlt : i < 8
    · go_wp2
      go_loopw [8] (fun kk wr2 => ∃ k : Nat, ∃ R : List Nat, k ≤ 8 ∧ kk = .int .i64 k ∧ RowOk i (nth x i) y k R ∧ OMem W1 W1.heap.size (.slice (some ⟨W1.heap.size, 0, none⟩) R.length 16) R wr2) (fun i _ => 8 - (intOf i).toNat)
      case atStart =>
        exact ⟨0, List.replicate 16 0, by omega, rfl, RowOk.start _ _ _, own16 W1 W1 (Below.refl _ _)⟩
      case round =>
        obtain ⟨k, R, hk8, rfl, hR, hM2⟩ := hrel
        have hX := (X.go hM.below hgx).go hM2.below (Nat.lt_of_lt_of_le hgx hM.below.size)
        have hY := (Y.go hM.below hgy).go hM2.below (Nat.lt_of_lt_of_le hgy hM.below.size)
        have lx := hX.lt
        have ly := hY.lt
        by_cases hlt2 : k < 8
        · have hx := hX.at_ i (by omega)
          have hx2 := nth_lt hdx i
          have hy := hY.at_ k (by omega)
          have hy2 := nth_lt hdy k
          have hR3 := hR.step (by omega) (by omega) hx2 hy2
          obtain ⟨cr, fr⟩ := hM2.cell (j := i + k) (by rw [hR.len]; omega)
          obtain ⟨p, hp⟩ : ∃ p, nth x i * nth y k = p := ⟨_, rfl⟩
          have s0 : (nth x i : Int) * (nth y k : Int) = (p : Int) := by rw [← hp]; simp
          have s1 : IntKind.u64.wrap (p : Int) = (p : Int) := by have := mul_small hx2 hy2; rw [IntKind.wrap_u64]; omega
          rw [hp] at hR3
          obtain ⟨j, hj⟩ : ∃ j, i + k = j := ⟨_, rfl⟩
          have s2 : (i : Int) + (k : Int) = (j : Int) := by omega
          have hj2 : j < 16 := by omega
          rw [hj] at hR3 cr fr
          clear hj
          have HR := Lib.hid hR
          have HR3 := Lib.hid hR3
          clear hR hR3 hp hx2 hy2
          go_wp2
          go_region
          all_goals go_wp2
          all_goals exact ⟨⟨k + 1, R.set j p, by omega, by go_num, HR3.out, hM2.put.drew⟩, by simp [intOf]; omega⟩
        · obtain rfl : k = 8 := by omega
          have hRl := hR.len
          have hRv := hR.val
          have hRs := hR.small
          rw [← hyl, List.take_length] at hRv
          have hM3 := hM.stay hM2.below
          have hgo2 := (hM.own.lt go rfl).2
          have hx2 := nth_lt hdx i
          obtain ⟨_, _, he, _, hRow⟩ := hM2.row (by omega)
          simp only [Value.slice.injEq, Option.some.injEq, Addr.mk.injEq, and_true, true_and] at he
          rw [← he.1] at hRow
          have HV := Lib.hid (show valD L + valD R = valD (x.take (i + 1)) * valD y by rw [hV, hRv, val_take (by omega), Nat.add_mul])
          clear he hR hM2 hX hY lx ly hRv hV hM hO
          generalize W1.heap.size = gr at *
          go_wp2
          go_loopw [9] (fun kk wr2 => ∃ k : Nat, ∃ M : List Nat, k ≤ 16 ∧ kk = .int .i64 k ∧ AddTo L R k M ∧ OMem w w.heap.size (.slice (some ⟨go, 0, none⟩) M.length co) M wr2 ∧ DRow wr2 gr R) (fun i _ => 16 - (intOf i).toNat)
          case atStart =>
            exact ⟨0, L, by omega, rfl, AddTo.start R hD, hM3, hRow⟩
          case round =>
            clear hM3 hRow
            obtain ⟨k, M, hk, rfl, hA, hM, hRow⟩ := hrel
            have hMl := hA.len
            have lr := hRow.lt
            by_cases hlt3 : k < 16
            · have hr := hRow.at_ k (by omega)
              obtain ⟨cm, fm⟩ := hM.cell (j := k) (by omega)
              have hA3 := hA.step hD (by omega) (by omega) (hRs k)
              have hm1 := hA.small k
              have hr1 := hRs k
              obtain ⟨p, hp⟩ : ∃ p, nth M k + nth R k = p := ⟨_, rfl⟩
              have s0 : (nth M k : Int) + (nth R k : Int) = (p : Int) := by omega
              have s1 : IntKind.u64.wrap (p : Int) = (p : Int) := by rw [IntKind.wrap_u64]; omega
              rw [hp] at hA3
              have HA := Lib.hid hA
              have HA3 := Lib.hid hA3
              clear hA hA3 hp hm1 hr1
              go_wp2
              go_region
              all_goals go_wp2
              all_goals exact ⟨⟨k + 1, M.set k p, by omega, by go_num, HA3.out, hM.put.drew, (hRow.far (p := ⟨go, k, none⟩) (by simp; omega) _).drew⟩, by simp [intOf]; omega⟩
            · obtain rfl : k = 16 := by omega
              have hv := hA.val
              rw [← hRl, List.take_length] at hv
              obtain ⟨_, _, he, _, hRow2⟩ := hM.row (by omega)
              simp only [Value.slice.injEq, Option.some.injEq, Addr.mk.injEq, and_true, true_and] at he
              rw [← he.1] at hRow2
              have HC := Lib.hid (fun W h => carriedR go co M W (by omega) (fun j _ => by have := hA.small j; omega) h)
              rw [hMl] at HC
              clear he hRow hA
              go_wp2_with (go_at_call 30; with_reducible refine (HC.out _ hRow2).mono ?_; rintro e w4 ⟨v4, L4, rfl, hM4, hD4, hV4, hL4, hL5⟩)
              have hsz := hM.size
              refine ⟨⟨i + 1, L4, by omega, by go_num, (hM4.rebase hM.below).lower (Nat.le_refl _) hsz, hD4, by rw [hV4, hv, HV.out], by omega, by omega⟩, by simp [intOf]; omega⟩
    · obtain rfl : i = 8 := by omega
      rw [← hxl, List.take_length] at hV
      go_wp2
      go_ret
      exact ⟨_, L, rfl, hM, hD, hV, hl1, by omega⟩
end Go.Proofs.YtofibaomjidieaaDoor
