/-
  Layer 7 (wide): numbers of two words as plain data; the walks of Of, Add, Mul, Times, Compare, Fits of package wide.
-/
import Derived.Test.YtofibaomjidieaaDoorKeep
import Derived.Shelf.Spec.BitsCarry
import Derived.Shelf.Bits.Mul64
namespace Go.Proofs.YtofibaomjidieaaDoor
open Go.RowKit Go.Shelf
set_option linter.unusedSimpArgs false
set_option linter.unusedVariables false

/-- A number of two words. -/
structure Wd where
  hi : Nat
  lo : Nat
deriving DecidableEq
def Wd.val (a : Wd) : Nat := a.hi * 18446744073709551616 + a.lo
structure Wd.Wf (a : Wd) : Prop where
  hi : a.hi < 18446744073709551616
  lo : a.lo < 18446744073709551616
abbrev Wd.v (a : Wd) : Value := .agg #[.int .u64 (a.hi : Int), .int .u64 (a.lo : Int)]
def wd (n : Nat) : Wd := ⟨n / 18446744073709551616, n % 18446744073709551616⟩
def fits2 (n : Nat) : Bool := decide (n < 340282366920938463463374607431768211456)
/-- The number, where it has room in two words; else 0. -/
def wdOf (n : Nat) : Wd := if fits2 n = true then wd n else ⟨0, 0⟩
theorem wd_wf {n : Nat} (h : n < 340282366920938463463374607431768211456) : (wd n).Wf := ⟨by simp only [wd]; omega, by simp only [wd]; omega⟩
theorem wdOf_wf (n : Nat) : (wdOf n).Wf := by
  unfold wdOf
  split
  · rename_i h; exact wd_wf (by simpa [fits2] using h)
  · exact ⟨by decide, by decide⟩
theorem wd_val (n : Nat) : (wd n).val = n := by simp only [wd, Wd.val]; omega
theorem wd_of {a : Wd} (h : a.Wf) : wd a.val = a := by
  have h1 := h.hi; have h2 := h.lo
  obtain ⟨x, y⟩ := a
  simp only [Wd.val, wd, Wd.mk.injEq] at *
  omega
theorem wdOf_val {n : Nat} (h : fits2 n = true) : (wdOf n).val = n := by unfold wdOf; rw [if_pos h, wd_val]
theorem val_lt {a : Wd} (h : a.Wf) : a.val < 340282366920938463463374607431768211456 := by
  have h1 := h.hi; have h2 := h.lo; unfold Wd.val; omega

def lays25_ren : Go.Shelf.Ren := ⟨fun | 25 => 27 | n => n, fun | 22 => 22 | n => n, fun | n => n⟩
theorem lays25 : Go.Proofs.Lays7.n25 Tryd.prog lays25_ren := {
  mixed := by kernel_rfl
  f25 := Tryd.func27.trans (congrArg some (by kernel_rfl))
  t22 := Tryd.underlying22
  a22 := Tryd.isAgg22
  z22 := Tryd.sizeOf22
  v22 := Tryd.zeroValue22
  i22 := by kernel_rfl }
theorem add64N (x y c s o : Nat) (hc : c ≤ 1) (hs : s = (x + y + c) % 18446744073709551616) (ho : o = (x + y + c) / 18446744073709551616) (w : World) :
    (callFunc 27 #[.int .u64 (x : Int), .int .u64 (y : Int), .int .u64 (c : Int)]).run Tryd.prog w = .ok (.value (.tuple #[.int .u64 (s : Int), .int .u64 (o : Int)])) w := by
  subst hs; subst ho
  exact Go.Proofs.Any7.bits_Add64 lays25 x y c hc w
def lays264_ren : Go.Shelf.Ren := ⟨fun | 264 => 32 | n => n, fun | 53 => 22 | 46 => 54 | n => n, fun | n => n⟩
theorem lays264 : Go.Proofs.Lays.n264 Tryd.prog lays264_ren := {
  mixed := by kernel_rfl
  f264 := Tryd.func32.trans (congrArg some (by kernel_rfl))
  t46 := Tryd.underlying54
  a46 := Tryd.isAgg54
  z46 := Tryd.sizeOf54
  v46 := Tryd.zeroValue54
  t53 := Tryd.underlying22
  a53 := Tryd.isAgg22
  z53 := Tryd.sizeOf22
  v53 := Tryd.zeroValue22 }
theorem mul64N (x y h l : Nat) (hx : x < 18446744073709551616) (hy : y < 18446744073709551616) (hh : h = x * y / 18446744073709551616) (hl : l = x * y % 18446744073709551616) (w : World) :
    Calls Tryd.prog 32 #[.int .u64 (x : Int), .int .u64 (y : Int)] w fun e w' => e = .returned (.tuple #[.int .u64 (h : Int), .int .u64 (l : Int)]) ∧ w = w' := by
  subst hh; subst hl
  exact (Go.Proofs.Any.bits_Mul64 lays264 x y hx hy w).mono fun e w' h => ⟨h.1, h.2.symm⟩

set_option maxHeartbeats 1000000 in
theorem ofP (n : Nat) (w : World) : Calls Tryd.prog 16 #[.int .u64 (n : Int)] w fun e w' => e = .returned (Wd.v ⟨0, n⟩) ∧ Below w.heap.size w w' := by
  go_enter Tryd.func16, Tryd.ntmps16
  go_wp2
  refine ret_of ?_ rfl
  refine ⟨Wd.v ⟨0, n⟩, ?_, rfl, below_alloc (Below.refl _ _) _⟩
  simp [results, Tryd.results16, go_sem]

set_option maxHeartbeats 2000000 in
theorem addP (a b : Wd) (ha : a.Wf) (hb : b.Wf) (w : World) : Calls Tryd.prog 11 #[a.v, b.v] w fun e w' => e = .returned (.tuple #[(wdOf (a.val + b.val)).v, .bool (fits2 (a.val + b.val))]) ∧ Below w.heap.size w w' := by
  obtain ⟨s1, hs1⟩ : ∃ s, s = (a.lo + b.lo + 0) % 18446744073709551616 := ⟨_, rfl⟩
  obtain ⟨c1, hc1⟩ : ∃ s, s = (a.lo + b.lo + 0) / 18446744073709551616 := ⟨_, rfl⟩
  obtain ⟨s2, hs2⟩ : ∃ s, s = (a.hi + b.hi + c1) % 18446744073709551616 := ⟨_, rfl⟩
  obtain ⟨c2, hc2⟩ : ∃ s, s = (a.hi + b.hi + c1) / 18446744073709551616 := ⟨_, rfl⟩
  have h1 := ha.hi; have h2 := ha.lo; have h3 := hb.hi; have h4 := hb.lo
  have r1 : ∀ w, (callFunc 27 #[.int .u64 (a.lo : Int), .int .u64 (b.lo : Int), .int .u64 0]).run Tryd.prog w = .ok (.value (.tuple #[.int .u64 (s1 : Int), .int .u64 (c1 : Int)])) w := fun w => add64N a.lo b.lo 0 s1 c1 (by omega) hs1 hc1 w
  have r2 : ∀ w, (callFunc 27 #[.int .u64 (a.hi : Int), .int .u64 (b.hi : Int), .int .u64 (c1 : Int)]).run Tryd.prog w = .ok (.value (.tuple #[.int .u64 (s2 : Int), .int .u64 (c2 : Int)])) w := fun w => add64N a.hi b.hi c1 s2 c2 (by omega) hs2 hc2 w
  have E1 : a.lo + b.lo = s1 + 18446744073709551616 * c1 := by omega
  have E2 : a.hi + b.hi + c1 = s2 + 18446744073709551616 * c2 := by omega
  have L1 : s1 < 18446744073709551616 := by omega
  have L2 : s2 < 18446744073709551616 := by omega
  have HS : Hid (a.val + b.val = s2 * 18446744073709551616 + s1 + 340282366920938463463374607431768211456 * c2) := Lib.hid (by unfold Wd.val; omega)
  clear hs1 hc1 hs2 hc2
  have HL := Lib.hid (And.intro L1 L2)
  clear E1 E2 L1 L2 h1 h2 h3 h4
  have hB : Below w.heap.size w (((w.alloc (.cells #[.int .u64 (a.hi : Int), .int .u64 (a.lo : Int)] 24)).alloc (.cells #[.int .u64 (b.hi : Int), .int .u64 (b.lo : Int)] 24)).alloc (.cells #[.int .u64 0, .int .u64 0] 24)) := below_alloc (below_alloc (below_alloc (Below.refl _ _) _) _) _
  by_cases hz : c2 = 0
  · have u1 : ((c2 : Int) != 0) = false := by simp [hz]
    have u2 : ((c2 : Int) == 0) = true := by simp [hz]
    have HV : Hid (wdOf (a.val + b.val) = ⟨s2, s1⟩ ∧ fits2 (a.val + b.val) = true) := Lib.hid (by
      have hs := HS.out
      obtain ⟨L1, L2⟩ := HL.out
      have hf : fits2 (a.val + b.val) = true := by simp only [fits2, decide_eq_true_eq]; omega
      refine ⟨?_, hf⟩
      unfold wdOf
      rw [if_pos hf]
      simp only [wd, Wd.mk.injEq]
      omega)
    have HZ := Lib.hid hz
    clear hz
    go_enter Tryd.func11, Tryd.ntmps11
    go_wp2
    refine ret_of ?_ rfl
    refine ⟨.tuple #[Wd.v ⟨s2, s1⟩, .bool true], ?_, by rw [HV.out.1, HV.out.2], ?_⟩
    · simp [results, Tryd.results11, go_sem]
    · repeat (first | exact Below.refl _ _ | with_reducible apply below_alloc)
  · have u1 : ((c2 : Int) != 0) = true := by simp [hz]
    have u2 : ((c2 : Int) == 0) = false := by simp [hz]
    have HV : Hid (wdOf (a.val + b.val) = ⟨0, 0⟩ ∧ fits2 (a.val + b.val) = false) := Lib.hid (by
      have hs := HS.out
      have hf : fits2 (a.val + b.val) = false := by simp only [fits2, decide_eq_false_iff_not]; omega
      refine ⟨?_, hf⟩
      unfold wdOf
      rw [if_neg (by simp [hf])])
    have HZ := Lib.hid hz
    clear hz
    go_enter Tryd.func11, Tryd.ntmps11
    go_wp2
    refine ret_of ?_ rfl
    refine ⟨.tuple #[Wd.v ⟨0, 0⟩, .bool false], ?_, by rw [HV.out.1, HV.out.2], ?_⟩
    · simp [results, Tryd.results11, go_sem]
    · repeat (first | exact Below.refl _ _ | with_reducible apply below_alloc)

set_option maxHeartbeats 1000000 in
theorem mulP (x y : Nat) (hx : x < 18446744073709551616) (hy : y < 18446744073709551616) (w : World) : Calls Tryd.prog 19 #[.int .u64 (x : Int), .int .u64 (y : Int)] w fun e w' => e = .returned (wd (x * y)).v ∧ Below w.heap.size w w' := by
  obtain ⟨h, hh⟩ : ∃ h, h = x * y / 18446744073709551616 := ⟨_, rfl⟩
  obtain ⟨l, hl⟩ : ∃ l, l = x * y % 18446744073709551616 := ⟨_, rfl⟩
  have HV : Hid (wd (x * y) = ⟨h, l⟩) := Lib.hid (by simp only [wd, hh, hl])
  have HC := Lib.hid (mul64N x y h l hx hy hh hl)
  clear hh hl
  go_enter Tryd.func19, Tryd.ntmps19
  go_wp2_with (go_at_call 32; refine (HC.out _).mono ?_; rintro e w' ⟨rfl, rfl⟩)
  refine ret_of ?_ rfl
  refine ⟨Wd.v ⟨h, l⟩, ?_, by rw [HV.out], ?_⟩
  · simp [results, Tryd.results19, go_sem]
  · exact below_alloc (Below.refl _ _) _

/-- Which of two is less. -/
def cmpD (a b : Wd) : Int := if a.val = b.val then 0 else if a.val < b.val then -1 else 1
set_option maxHeartbeats 2000000 in
theorem compareP (a b : Wd) (ha : a.Wf) (hb : b.Wf) (w : World) : Calls Tryd.prog 14 #[a.v, b.v] w fun e w' => e = .returned (.int .i64 (cmpD a b)) ∧ Below w.heap.size w w' := by
  have h1 := ha.hi; have h2 := ha.lo; have h3 := hb.hi; have h4 := hb.lo
  have hB : Below w.heap.size w ((w.alloc (.cells #[.int .u64 (a.hi : Int), .int .u64 (a.lo : Int)] 24)).alloc (.cells #[.int .u64 (b.hi : Int), .int .u64 (b.lo : Int)] 24)) := below_alloc (below_alloc (Below.refl _ _) _) _
  rcases (by omega : (a.hi = b.hi ∧ a.lo = b.lo) ∨ a.hi < b.hi ∨ (a.hi = b.hi ∧ a.lo < b.lo) ∨ (a.hi = b.hi ∧ b.lo < a.lo) ∨ b.hi < a.hi) with ⟨e1, e2⟩ | e1 | ⟨e1, e2⟩ | ⟨e1, e2⟩ | e1
  · have hv : cmpD a b = 0 := by unfold cmpD Wd.val; rw [if_pos (by rw [e1, e2])]
    have u1 : ((a.hi : Int) == (b.hi : Int)) = true := by simp [e1]
    have u2 : ((a.lo : Int) == (b.lo : Int)) = true := by simp [e2]
    clear e1 e2 h1 h2 h3 h4
    go_enter Tryd.func14, Tryd.ntmps14
    go_wp2
    go_ret
    exact ⟨by rw [hv]; rfl, hB⟩
  · have hv : cmpD a b = -1 := by unfold cmpD Wd.val; rw [if_neg (by omega), if_pos (by omega)]
    have u1 : ((a.hi : Int) == (b.hi : Int)) = false := by simp; omega
    have u3 : decide (a.hi < b.hi) = true := by simp; omega
    clear e1 h1 h2 h3 h4
    go_enter Tryd.func14, Tryd.ntmps14
    go_wp2
    go_ret
    exact ⟨by rw [hv]; rfl, hB⟩
  · have hv : cmpD a b = -1 := by unfold cmpD Wd.val; rw [if_neg (by omega), if_pos (by omega)]
    have u1 : ((a.hi : Int) == (b.hi : Int)) = true := by simp [e1]
    have u2 : ((a.lo : Int) == (b.lo : Int)) = false := by simp; omega
    have u3 : decide (a.hi < b.hi) = false := by simp; omega
    have u4 : decide (a.lo < b.lo) = true := by simp; omega
    clear e1 e2 h1 h2 h3 h4
    go_enter Tryd.func14, Tryd.ntmps14
    go_wp2
    go_ret
    exact ⟨by rw [hv]; rfl, hB⟩
  · have hv : cmpD a b = 1 := by unfold cmpD Wd.val; rw [if_neg (by omega), if_neg (by omega)]
    have u1 : ((a.hi : Int) == (b.hi : Int)) = true := by simp [e1]
    have u2 : ((a.lo : Int) == (b.lo : Int)) = false := by simp; omega
    have u3 : decide (a.hi < b.hi) = false := by simp; omega
    have u4 : decide (a.lo < b.lo) = false := by simp; omega
    clear e1 e2 h1 h2 h3 h4
    go_enter Tryd.func14, Tryd.ntmps14
    go_wp2
    go_ret
    exact ⟨by rw [hv]; rfl, hB⟩
  · have hv : cmpD a b = 1 := by unfold cmpD Wd.val; rw [if_neg (by omega), if_neg (by omega)]
    have u1 : ((a.hi : Int) == (b.hi : Int)) = false := by simp; omega
    have u3 : decide (a.hi < b.hi) = false := by simp; omega
    clear e1 h1 h2 h3 h4
    go_enter Tryd.func14, Tryd.ntmps14
    go_wp2
    go_ret
    exact ⟨by rw [hv]; rfl, hB⟩
end Go.Proofs.YtofibaomjidieaaDoor
