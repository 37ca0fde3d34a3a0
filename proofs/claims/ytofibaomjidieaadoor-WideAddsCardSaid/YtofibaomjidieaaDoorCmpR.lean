/-
  Layer 7 (wide): the walk of the reference's Compare.
-/
import Derived.Test.YtofibaomjidieaaDoorAddR
namespace Go.Proofs.YtofibaomjidieaaDoor
open Go.RowKit
set_option linter.unusedSimpArgs false
set_option linter.unusedVariables false
theorem val_at {l : List Nat} {k : Nat} (hk : k < l.length) : valD l = valD (l.take k) + 65536 ^ k * nth l k + 65536 ^ (k + 1) * valD (l.drop (k + 1)) := by
  have := valD_app (l.take (k + 1)) (l.drop (k + 1))
  rw [List.take_append_drop, val_take hk, List.length_take, Nat.min_eq_left (by omega)] at this
  exact this
theorem val_less {x y : List Nat} {k : Nat} (hd : Digs x) (hx : k < x.length) (hy : k < y.length) (he : x.drop (k + 1) = y.drop (k + 1)) (h : nth x k < nth y k) : valD x < valD y := by
  rw [val_at hx, val_at hy, he]
  have h1 := valD_lt (hd.take k)
  rw [List.length_take, Nat.min_eq_left (by omega)] at h1
  have h2 : 65536 ^ k * (nth x k + 1) ≤ 65536 ^ k * nth y k := Nat.mul_le_mul_left _ h
  rw [Nat.mul_add] at h2
  omega
theorem drop_at {x y : List Nat} {k : Nat} (hx : k < x.length) (hy : k < y.length) (he : x.drop (k + 1) = y.drop (k + 1)) (h : nth x k = nth y k) : x.drop k = y.drop k := by
  rw [List.drop_eq_getElem_cons hx, List.drop_eq_getElem_cons hy, he]
  simp only [nth, List.getD, List.getElem?_eq_getElem hx, List.getElem?_eq_getElem hy, Option.getD_some] at h
  rw [h]
set_option maxHeartbeats 16000000 in
set_option maxRecDepth 100000 in
theorem compareR (a b : Wd) (ha : a.Wf) (hb : b.Wf) (w : World) : Calls Tryd.prog 15 #[a.v, b.v] w fun e w' => e = .returned (.int .i64 (cmpD a b)) ∧ Below w.heap.size w w' := by
  have hva := valD_digsW ha
  have hvb := valD_digsW hb
  have hna := digsW_len a
  have hnb := digsW_len b
  have hda := digsW_digs a
  have hdb := digsW_digs b
  have HX := Lib.hid (show ∀ w, Calls Tryd.prog 28 #[a.v] w fun e w' => ∃ v, e = .returned v ∧ OMem w w.heap.size v (digsW a) w' from fun w => digitsR a ha w)
  have HY := Lib.hid (show ∀ w, Calls Tryd.prog 28 #[b.v] w fun e w' => ∃ v, e = .returned v ∧ OMem w w.heap.size v (digsW b) w' from fun w => digitsR b hb w)
  generalize digsW a = x at *
  generalize digsW b = y at *
  have HV := Lib.hid (And.intro hva hvb)
  clear hva hvb
  go_enter Tryd.func15, Tryd.ntmps15
  go_wp2_with (first
    | (go_at_call 28; with_reducible refine (HX.out _).mono ?_; rintro e w1 ⟨v1, rfl, hM1⟩; obtain ⟨hcc1, hff1⟩ := bcell hM1.below; have hs1 := hM1.below.size; (try simp at hs1); have l1a : w.heap.size < w1.heap.size := (by omega); have l1b : w.heap.size + 1 < w1.heap.size := (by omega))
    | (go_at_call 28; with_reducible refine (HY.out _).mono ?_; rintro e w2 ⟨v2, rfl, hM2⟩))
  have B1 : Below w.heap.size w w1 := below_step (below_alloc (below_alloc (Below.refl _ _) _) _) hM1.below
  obtain ⟨g1, c1, rfl, hg1, X1⟩ := hM1.row (by omega)
  obtain ⟨g2, c2, rfl, hg2, Y2⟩ := hM2.row (by omega)
  have B2 : Below w.heap.size w w2 := below_step B1 hM2.below
  have X2 := X1.go hM2.below X1.lt
  rw [hna, hnb]
  clear hM1 hM2 hcc1 hff1 B1 X1 hs1 hg1 hg2 HX HY l1a l1b
  have hgx := X2.lt
  have hgy := Y2.lt
  go_loopw [7] (fun i wr => ∃ k : Nat, k ≤ 8 ∧ i = .int .i64 ((k : Int) - 1) ∧ x.drop k = y.drop k ∧ Below w2.heap.size w2 wr) (fun i _ => (intOf i + 1).toNat)
  case atStart =>
    exact ⟨8, by omega, rfl, by rw [← hna, List.drop_length, hna, ← hnb, List.drop_length], Below.refl _ _⟩
  case round =>
    obtain ⟨k, hk, rfl, he, hB⟩ := hrel
    have X3 := X2.go hB hgx
    have Y3 := Y2.go hB hgy
    have l1 := X3.lt
    have l2 := Y3.lt
    have B3 := below_step B2 hB
    cases k with
    | zero =>
      have hv : cmpD a b = 0 := by
        have e : x = y := he
        unfold cmpD
        rw [if_pos (by rw [← HV.out.1, ← HV.out.2, e])]
      have u0 : decide ((0 : Int) ≤ ((0 : Nat) : Int) - 1) = false := by decide
      clear he
      go_wp2
      go_ret
      exact ⟨by rw [hv]; rfl, B3⟩
    | succ k =>
      have e1 : (((k + 1 : Nat) : Int) - 1) = (k : Int) := by omega
      rw [e1]
      have cx := X3.at_ k (by omega)
      have cy := Y3.at_ k (by omega)
      rcases (by omega : nth x k < nth y k ∨ nth y k < nth x k ∨ nth x k = nth y k) with h | h | h
      · have hv : cmpD a b = -1 := by
          have := val_less hda (by omega) (by omega) he h
          rw [HV.out.1, HV.out.2] at this
          unfold cmpD
          rw [if_neg (by omega), if_pos this]
        clear he
        generalize nth x k = p at *
        generalize nth y k = q at *
        have u1 : decide (p < q) = true := by simp; omega
        clear h
        go_wp2
        go_region_with fail
        all_goals go_wp2
        all_goals go_ret
        all_goals exact ⟨by rw [hv]; rfl, B3.drew⟩
      · have hv : cmpD a b = 1 := by
          have := val_less hdb (by omega) (by omega) he.symm h
          rw [HV.out.1, HV.out.2] at this
          unfold cmpD
          rw [if_neg (by omega), if_neg (by omega)]
        clear he
        generalize nth x k = p at *
        generalize nth y k = q at *
        have u1 : decide (p < q) = false := by simp; omega
        have u2 : decide (q < p) = true := by simp; omega
        clear h
        go_wp2
        go_region_with fail
        all_goals go_wp2
        all_goals go_region_with fail
        all_goals go_wp2
        all_goals go_ret
        all_goals exact ⟨by rw [hv]; rfl, B3.drew.drew⟩
      · have he2 := drop_at (by omega) (by omega) he h
        clear he
        generalize nth x k = p at *
        generalize nth y k = q at *
        obtain rfl := h
        have u1 : decide (p < p) = false := by simp
        go_wp2
        go_region_with fail
        all_goals go_wp2
        all_goals go_region_with fail
        all_goals go_wp2
        all_goals exact ⟨⟨k, by omega, by go_num, he2, hB.drew.drew⟩, by simp [intOf] <;> omega⟩
end Go.Proofs.YtofibaomjidieaaDoor
