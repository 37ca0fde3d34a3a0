/-
  Layer 9 (code): slices.Equal at the three types that Same uses.
-/
import Derived.Test.YtpmffclepnkedaaDoorMod
import Derived.BigQuiet
namespace Go.Proofs.YtpmffclepnkedaaDoor
open Go.RowKit
set_option linter.unusedSimpArgs false
set_option linter.unusedVariables false

/-- Do the first k meet p? -/
def allTo (p : Nat → Bool) : Nat → Bool
  | 0 => true
  | k + 1 => allTo p k && p k
theorem allTo_no {p : Nat → Bool} {k n : Nat} (hk : k < n) (h : p k = false) : allTo p n = false := by
  induction n with
  | zero => omega
  | succ n ih =>
    rcases Nat.lt_or_ge k n with h1 | h1
    · simp [allTo, ih h1]
    · obtain rfl : k = n := by omega
      simp [allTo, h]
theorem allTo_yes {p : Nat → Bool} {k : Nat} (h : allTo p k = true) (h2 : p k = true) : allTo p (k + 1) = true := by simp [allTo, h, h2]
/-- Rows of two lengths, alike at every place. -/
def eqTo (n m : Nat) (p : Nat → Bool) : Bool := decide (n = m) && allTo p n
theorem eqTo_len {n m : Nat} {p : Nat → Bool} (h : n ≠ m) : eqTo n m p = false := by simp [eqTo, h]
theorem eqTo_no {n m k : Nat} {p : Nat → Bool} (hk : k < n) (h : p k = false) : eqTo n m p = false := by simp [eqTo, allTo_no hk h]
theorem eqTo_yes {n : Nat} {p : Nat → Bool} (h : allTo p n = true) : eqTo n n p = true := by simp [eqTo, h]
theorem below_drewN {B : Nat} {w w' : World} (h : Below B w w') (n : Nat) : Below B w (w'.drewN n) := ⟨h.os, h.tape, h.output, h.size, h.block⟩
def sameI (xs ys : List Int) (k : Nat) : Bool := nthI xs k == nthI ys k
def sameS (xs ys : List Sp) (k : Nat) : Bool := (nthS xs k).lo == (nthS ys k).lo && (nthS xs k).hi == (nthS ys k).hi
def sameX (xs ys : List InsD) (k : Nat) : Bool := (nthX xs k).op == (nthX ys k).op && ((nthX xs k).a == (nthX ys k).a && ((nthX xs k).b == (nthX ys k).b && ((nthX xs k).c == (nthX ys k).c && (nthX xs k).n == (nthX ys k).n)))
set_option maxHeartbeats 1000000 in
theorem equalIP (A1 A2 : Option Addr) (c1 c2 : Nat) (xs ys : List Int) (w : World) (hm : xs.length ≤ 9223372036854775806) (hm2 : ys.length ≤ 9223372036854775806) (h1 : IntsAt w w.heap.size A1 xs) (h2 : IntsAt w w.heap.size A2 ys) :
    Calls Tryd.prog 38 #[.slice A1 xs.length c1, .slice A2 ys.length c2] w fun e w' => e = .returned (.bool (eqTo xs.length ys.length (sameI xs ys))) ∧ Below w.heap.size w w' := by
  have H1 := Lib.hid h1; clear h1
  have H2 := Lib.hid h2; clear h2
  by_cases hl : xs.length = ys.length
  · have hl' : ((xs.length : Int) != (ys.length : Int)) = false := by simp [hl]
    have hl2 : (xs.length : Int) = (ys.length : Int) := by omega
    have HL := Lib.hid hl; clear hl
    go_enter Tryd.func38, Tryd.ntmps38
    go_wp2
    clear hl2
    go_loopw [13] (fun i wr => ∃ k : Nat, k ≤ xs.length ∧ i = .int .i64 k ∧ Below w.heap.size w wr ∧ allTo (sameI xs ys) k = true) (fun i _ => xs.length - (intOf i).toNat)
    case atStart => exact ⟨0, Nat.zero_le _, rfl, Below.refl _ _, rfl⟩
    case round =>
      obtain ⟨k, hk, rfl, hB, hall⟩ := hrel
      have HA := Lib.hid hall; clear hall
      have hll := HL.out
      by_cases hlt : k < xs.length
      · obtain ⟨b1, o1, rfl, hb1, hc1⟩ := (H1.out.below hB (Nat.le_refl _)) (by omega)
        obtain ⟨b2, o2, rfl, hb2, hc2⟩ := (H2.out.below hB (Nat.le_refl _)) (by omega)
        have xb10 : wr.cell? ⟨b1, o1 + k, none⟩ = some (.int .i64 (nthI xs k)) := hc1 k (by omega)
        have yb20 : wr.cell? ⟨b2, o2 + k, none⟩ = some (.int .i64 (nthI ys k)) := hc2 k (by omega)
        clear hc1 hc2
        have hlt2 : k < ys.length := by omega
        have hp : sameI xs ys k = ((nthI xs k) == (nthI ys k)) := rfl
        have HP := Lib.hid hp; clear hp
        clear hll
        cases u0 : ((nthI xs k) == (nthI ys k))
        · have hp : sameI xs ys k = false := by rw [HP.out]; simp only [u0, Bool.false_and, Bool.and_false, Bool.true_and]
          go_wp2
          go_quiet (fail)
          go_wp2
          go_ret
          exact ⟨by rw [eqTo_no hlt hp]; rfl, below_drewN hB _⟩
        · skip
          have hp : sameI xs ys k = true := by rw [HP.out]; simp only [u0, Bool.and_self]
          go_wp2
          go_quiet (fail)
          go_wp2
          go_roundw
          case rel => exact ⟨k + 1, by omega, by go_num, below_drewN hB _, allTo_yes HA.out hp⟩
          case measure => simp only [intOf]; omega
      · obtain rfl : k = xs.length := by omega
        go_wp2
        go_ret
        refine ⟨?_, hB⟩
        rw [← hll, eqTo_yes HA.out]; rfl
  · have hl' : ((xs.length : Int) != (ys.length : Int)) = true := by simp; omega
    have HL := Lib.hid hl; clear hl
    go_enter Tryd.func38, Tryd.ntmps38
    go_wp2
    go_ret
    exact ⟨by rw [eqTo_len HL.out]; rfl, Below.refl _ _⟩


set_option maxHeartbeats 1000000 in
theorem equalSP (A1 A2 : Option Addr) (c1 c2 : Nat) (xs ys : List Sp) (w : World) (hm : xs.length ≤ 9223372036854775806) (hm2 : ys.length ≤ 9223372036854775806) (h1 : SpansAt w w.heap.size A1 xs) (h2 : SpansAt w w.heap.size A2 ys) :
    Calls Tryd.prog 41 #[.slice A1 xs.length c1, .slice A2 ys.length c2] w fun e w' => e = .returned (.bool (eqTo xs.length ys.length (sameS xs ys))) ∧ Below w.heap.size w w' := by
  have H1 := Lib.hid h1; clear h1
  have H2 := Lib.hid h2; clear h2
  by_cases hl : xs.length = ys.length
  · have hl' : ((xs.length : Int) != (ys.length : Int)) = false := by simp [hl]
    have hl2 : (xs.length : Int) = (ys.length : Int) := by omega
    have HL := Lib.hid hl; clear hl
    go_enter Tryd.func41, Tryd.ntmps41
    go_wp2
    clear hl2
    go_loopw [13] (fun i wr => ∃ k : Nat, k ≤ xs.length ∧ i = .int .i64 k ∧ Below w.heap.size w wr ∧ allTo (sameS xs ys) k = true) (fun i _ => xs.length - (intOf i).toNat)
    case atStart => exact ⟨0, Nat.zero_le _, rfl, Below.refl _ _, rfl⟩
    case round =>
      obtain ⟨k, hk, rfl, hB, hall⟩ := hrel
      have HA := Lib.hid hall; clear hall
      have hll := HL.out
      by_cases hlt : k < xs.length
      · obtain ⟨b1, o1, rfl, hb1, hc1⟩ := (H1.out.below hB (Nat.le_refl _)) (by omega)
        obtain ⟨b2, o2, rfl, hb2, hc2⟩ := (H2.out.below hB (Nat.le_refl _)) (by omega)
        have xb10 : wr.cell? ⟨b1, o1 + k * 2, none⟩ = some (.int .i64 (nthS xs k).lo) := hc1 k (by omega) 0 (by omega)
        have xb11 : wr.cell? ⟨b1, o1 + k * 2 + 1, none⟩ = some (.int .i64 (nthS xs k).hi) := hc1 k (by omega) 1 (by omega)
        have yb20 : wr.cell? ⟨b2, o2 + k * 2, none⟩ = some (.int .i64 (nthS ys k).lo) := hc2 k (by omega) 0 (by omega)
        have yb21 : wr.cell? ⟨b2, o2 + k * 2 + 1, none⟩ = some (.int .i64 (nthS ys k).hi) := hc2 k (by omega) 1 (by omega)
        clear hc1 hc2
        have hlt2 : k < ys.length := by omega
        have hp : sameS xs ys k = ((nthS xs k).lo == (nthS ys k).lo && ((nthS xs k).hi == (nthS ys k).hi)) := rfl
        have HP := Lib.hid hp; clear hp
        clear hll
        cases u0 : ((nthS xs k).lo == (nthS ys k).lo)
        · have hp : sameS xs ys k = false := by rw [HP.out]; simp only [u0, Bool.false_and, Bool.and_false, Bool.true_and]
          go_wp2
          go_quiet (fail)
          go_wp2
          go_ret
          exact ⟨by rw [eqTo_no hlt hp]; rfl, below_drewN hB _⟩
        · skip
          cases u1 : ((nthS xs k).hi == (nthS ys k).hi)
          · have hp : sameS xs ys k = false := by rw [HP.out]; simp only [u0, u1, Bool.false_and, Bool.and_false, Bool.true_and]
            go_wp2
            go_quiet (fail)
            go_wp2
            go_ret
            exact ⟨by rw [eqTo_no hlt hp]; rfl, below_drewN hB _⟩
          · skip
            have hp : sameS xs ys k = true := by rw [HP.out]; simp only [u0, u1, Bool.and_self]
            go_wp2
            go_quiet (fail)
            go_wp2
            go_roundw
            case rel => exact ⟨k + 1, by omega, by go_num, below_drewN hB _, allTo_yes HA.out hp⟩
            case measure => simp only [intOf]; omega
      · obtain rfl : k = xs.length := by omega
        go_wp2
        go_ret
        refine ⟨?_, hB⟩
        rw [← hll, eqTo_yes HA.out]; rfl
  · have hl' : ((xs.length : Int) != (ys.length : Int)) = true := by simp; omega
    have HL := Lib.hid hl; clear hl
    go_enter Tryd.func41, Tryd.ntmps41
    go_wp2
    go_ret
    exact ⟨by rw [eqTo_len HL.out]; rfl, Below.refl _ _⟩


set_option maxHeartbeats 1000000 in
theorem equalXP (A1 A2 : Option Addr) (c1 c2 : Nat) (xs ys : List InsD) (w : World) (hm : xs.length ≤ 9223372036854775806) (hm2 : ys.length ≤ 9223372036854775806) (h1 : InsAt w w.heap.size A1 xs) (h2 : InsAt w w.heap.size A2 ys) :
    Calls Tryd.prog 42 #[.slice A1 xs.length c1, .slice A2 ys.length c2] w fun e w' => e = .returned (.bool (eqTo xs.length ys.length (sameX xs ys))) ∧ Below w.heap.size w w' := by
  have H1 := Lib.hid h1; clear h1
  have H2 := Lib.hid h2; clear h2
  by_cases hl : xs.length = ys.length
  · have hl' : ((xs.length : Int) != (ys.length : Int)) = false := by simp [hl]
    have hl2 : (xs.length : Int) = (ys.length : Int) := by omega
    have HL := Lib.hid hl; clear hl
    go_enter Tryd.func42, Tryd.ntmps42
    go_wp2
    clear hl2
    go_loopw [13] (fun i wr => ∃ k : Nat, k ≤ xs.length ∧ i = .int .i64 k ∧ Below w.heap.size w wr ∧ allTo (sameX xs ys) k = true) (fun i _ => xs.length - (intOf i).toNat)
    case atStart => exact ⟨0, Nat.zero_le _, rfl, Below.refl _ _, rfl⟩
    case round =>
      obtain ⟨k, hk, rfl, hB, hall⟩ := hrel
      have HA := Lib.hid hall; clear hall
      have hll := HL.out
      by_cases hlt : k < xs.length
      · obtain ⟨b1, o1, rfl, hb1, hc1⟩ := (H1.out.below hB (Nat.le_refl _)) (by omega)
        obtain ⟨b2, o2, rfl, hb2, hc2⟩ := (H2.out.below hB (Nat.le_refl _)) (by omega)
        have xb10 : wr.cell? ⟨b1, o1 + k * 5, none⟩ = some (.int .i64 (nthX xs k).op) := hc1 k (by omega) 0 (by omega)
        have xb11 : wr.cell? ⟨b1, o1 + k * 5 + 1, none⟩ = some (.int .i64 (nthX xs k).a) := hc1 k (by omega) 1 (by omega)
        have xb12 : wr.cell? ⟨b1, o1 + k * 5 + 2, none⟩ = some (.int .i64 (nthX xs k).b) := hc1 k (by omega) 2 (by omega)
        have xb13 : wr.cell? ⟨b1, o1 + k * 5 + 3, none⟩ = some (.int .i64 (nthX xs k).c) := hc1 k (by omega) 3 (by omega)
        have xb14 : wr.cell? ⟨b1, o1 + k * 5 + 4, none⟩ = some (.int .i64 (nthX xs k).n) := hc1 k (by omega) 4 (by omega)
        have yb20 : wr.cell? ⟨b2, o2 + k * 5, none⟩ = some (.int .i64 (nthX ys k).op) := hc2 k (by omega) 0 (by omega)
        have yb21 : wr.cell? ⟨b2, o2 + k * 5 + 1, none⟩ = some (.int .i64 (nthX ys k).a) := hc2 k (by omega) 1 (by omega)
        have yb22 : wr.cell? ⟨b2, o2 + k * 5 + 2, none⟩ = some (.int .i64 (nthX ys k).b) := hc2 k (by omega) 2 (by omega)
        have yb23 : wr.cell? ⟨b2, o2 + k * 5 + 3, none⟩ = some (.int .i64 (nthX ys k).c) := hc2 k (by omega) 3 (by omega)
        have yb24 : wr.cell? ⟨b2, o2 + k * 5 + 4, none⟩ = some (.int .i64 (nthX ys k).n) := hc2 k (by omega) 4 (by omega)
        clear hc1 hc2
        have hlt2 : k < ys.length := by omega
        have hp : sameX xs ys k = ((nthX xs k).op == (nthX ys k).op && ((nthX xs k).a == (nthX ys k).a && ((nthX xs k).b == (nthX ys k).b && ((nthX xs k).c == (nthX ys k).c && ((nthX xs k).n == (nthX ys k).n))))) := rfl
        have HP := Lib.hid hp; clear hp
        clear hll
        cases u0 : ((nthX xs k).op == (nthX ys k).op)
        · have hp : sameX xs ys k = false := by rw [HP.out]; simp only [u0, Bool.false_and, Bool.and_false, Bool.true_and]
          go_wp2
          go_quiet (fail)
          go_wp2
          go_ret
          exact ⟨by rw [eqTo_no hlt hp]; rfl, below_drewN hB _⟩
        · skip
          cases u1 : ((nthX xs k).a == (nthX ys k).a)
          · have hp : sameX xs ys k = false := by rw [HP.out]; simp only [u0, u1, Bool.false_and, Bool.and_false, Bool.true_and]
            go_wp2
            go_quiet (fail)
            go_wp2
            go_ret
            exact ⟨by rw [eqTo_no hlt hp]; rfl, below_drewN hB _⟩
          · skip
            cases u2 : ((nthX xs k).b == (nthX ys k).b)
            · have hp : sameX xs ys k = false := by rw [HP.out]; simp only [u0, u1, u2, Bool.false_and, Bool.and_false, Bool.true_and]
              go_wp2
              go_quiet (fail)
              go_wp2
              go_ret
              exact ⟨by rw [eqTo_no hlt hp]; rfl, below_drewN hB _⟩
            · skip
              cases u3 : ((nthX xs k).c == (nthX ys k).c)
              · have hp : sameX xs ys k = false := by rw [HP.out]; simp only [u0, u1, u2, u3, Bool.false_and, Bool.and_false, Bool.true_and]
                go_wp2
                go_quiet (fail)
                go_wp2
                go_ret
                exact ⟨by rw [eqTo_no hlt hp]; rfl, below_drewN hB _⟩
              · skip
                cases u4 : ((nthX xs k).n == (nthX ys k).n)
                · have hp : sameX xs ys k = false := by rw [HP.out]; simp only [u0, u1, u2, u3, u4, Bool.false_and, Bool.and_false, Bool.true_and]
                  go_wp2
                  go_quiet (fail)
                  go_wp2
                  go_ret
                  exact ⟨by rw [eqTo_no hlt hp]; rfl, below_drewN hB _⟩
                · skip
                  have hp : sameX xs ys k = true := by rw [HP.out]; simp only [u0, u1, u2, u3, u4, Bool.and_self]
                  go_wp2
                  go_quiet (fail)
                  go_wp2
                  go_roundw
                  case rel => exact ⟨k + 1, by omega, by go_num, below_drewN hB _, allTo_yes HA.out hp⟩
                  case measure => simp only [intOf]; omega
      · obtain rfl : k = xs.length := by omega
        go_wp2
        go_ret
        refine ⟨?_, hB⟩
        rw [← hll, eqTo_yes HA.out]; rfl
  · have hl' : ((xs.length : Int) != (ys.length : Int)) = true := by simp; omega
    have HL := Lib.hid hl; clear hl
    go_enter Tryd.func42, Tryd.ntmps42
    go_wp2
    go_ret
    exact ⟨by rw [eqTo_len HL.out]; rfl, Below.refl _ _⟩

end Go.Proofs.YtpmffclepnkedaaDoor
