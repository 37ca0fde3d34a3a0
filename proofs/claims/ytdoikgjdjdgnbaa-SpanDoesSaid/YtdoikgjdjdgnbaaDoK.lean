/-
  Layer 8 (span): what soffitref08.Do returns, for every operation and all spans.
-/
import Derived.Test.YtdoikgjdjdgnbaaDoRA
import Derived.Test.YtdoikgjdjdgnbaaDoRS
import Derived.Test.YtdoikgjdjdgnbaaDoRD
import Derived.Test.YtdoikgjdjdgnbaaDoRF
import Derived.Test.YtdoikgjdjdgnbaaDoRC
import Derived.Test.YtdoikgjdjdgnbaaDoRE
import Derived.Test.YtdoikgjdjdgnbaaDoRN
import Derived.Test.YtdoikgjdjdgnbaaDoRZ
import Derived.Test.YtdoikgjdjdgnbaaDoRG
import Derived.Test.YtdoikgjdjdgnbaaDoRH
import Derived.Test.YtdoikgjdjdgnbaaDoRI
import Derived.Test.YtdoikgjdjdgnbaaPlainJ
namespace Go.Proofs.Ytdoikgjdjdgnbaa
open Go.RowKit
set_option linter.unusedSimpArgs false
set_option linter.unusedVariables false

theorem prodV_ok {x y : Int} (h : mulOk x y = true) : prodV x y = x * y := by
  unfold prodV
  split
  · rename_i h0
    rcases h0 with h0 | h0 <;> simp [h0]
  · split
    · simp [h]
    · exact mulOk_wrap h

theorem rAddP (a b : Sp) (n1 : a.lo ≤ a.hi) (n2 : b.lo ≤ b.hi) (ha : a.Wf) (hb : b.Wf) (w : World) : Calls Try.prog 23 #[.int .i64 3, .agg #[.int .i64 a.lo, .int .i64 a.hi], .agg #[.int .i64 b.lo, .int .i64 b.hi]] w fun e w' => e = .returned (.tuple #[.agg #[.int .i64 (addS a b).lo, .int .i64 (addS a b).hi], .bool true]) ∧ Below w.heap.size w w' := by
  cases c : (a.lo == a.hi)
  · have hp : bothPoint a b = false := by simp [bothPoint, point_eq, c]
    cases o1 : Sp.sumOk a.lo b.lo
    · rw [show addS a b = Sp.all from by simp [addS, hp, o1]]
      cases z1 : (b.lo == 0)
      · exact rAdd_rmc a b n1 n2 ha hb c z1 o1 w
      · cases z2 : (b.hi == 0)
        · exact rAdd_rmd a b n1 n2 ha hb c z1 z2 o1 w
        · exact rAdd_rmz a b n1 n2 ha hb c z1 z2 o1 w
    · cases o2 : Sp.sumOk a.hi b.hi
      · rw [show addS a b = Sp.all from by simp [addS, hp, o1, o2]]
        cases z1 : (b.lo == 0)
        · exact rAdd_rnc a b n1 n2 ha hb c z1 o1 o2 w
        · cases z2 : (b.hi == 0)
          · exact rAdd_rnd a b n1 n2 ha hb c z1 z2 o1 o2 w
          · exact rAdd_rnz a b n1 n2 ha hb c z1 z2 o1 o2 w
      · rw [show addS a b = hullTo [a.lo + b.lo, a.hi + b.hi] 2 from by simp [addS, hp, o1, o2]]
        cases z1 : (b.lo == 0)
        · exact rAdd_ryc a b n1 n2 ha hb c z1 o1 o2 w
        · cases z2 : (b.hi == 0)
          · exact rAdd_ryd a b n1 n2 ha hb c z1 z2 o1 o2 w
          · exact rAdd_ryz a b n1 n2 ha hb c z1 z2 o1 o2 w
  cases d : (b.lo == b.hi)
  · have hp : bothPoint a b = false := by simp [bothPoint, point_eq, c, d]
    cases o1 : Sp.sumOk a.lo b.lo
    · rw [show addS a b = Sp.all from by simp [addS, hp, o1]]
      cases z1 : (b.lo == 0)
      · exact rAdd_qmc a b n1 n2 ha hb c d z1 o1 w
      · cases z2 : (b.hi == 0)
        · exact rAdd_qmd a b n1 n2 ha hb c d z1 z2 o1 w
        · exact rAdd_qmz a b n1 n2 ha hb c d z1 z2 o1 w
    · cases o2 : Sp.sumOk a.hi b.hi
      · rw [show addS a b = Sp.all from by simp [addS, hp, o1, o2]]
        cases z1 : (b.lo == 0)
        · exact rAdd_qnc a b n1 n2 ha hb c d z1 o1 o2 w
        · cases z2 : (b.hi == 0)
          · exact rAdd_qnd a b n1 n2 ha hb c d z1 z2 o1 o2 w
          · exact rAdd_qnz a b n1 n2 ha hb c d z1 z2 o1 o2 w
      · rw [show addS a b = hullTo [a.lo + b.lo, a.hi + b.hi] 2 from by simp [addS, hp, o1, o2]]
        cases z1 : (b.lo == 0)
        · exact rAdd_qyc a b n1 n2 ha hb c d z1 o1 o2 w
        · cases z2 : (b.hi == 0)
          · exact rAdd_qyd a b n1 n2 ha hb c d z1 z2 o1 o2 w
          · exact rAdd_qyz a b n1 n2 ha hb c d z1 z2 o1 o2 w
  · rw [show addS a b = ⟨wrap64 (a.lo + b.lo), wrap64 (a.lo + b.lo)⟩ from by simp [addS, bothPoint, point_eq, c, d]]
    cases z1 : (b.lo == 0)
    · exact rAdd_pc a b n1 n2 c d z1 w
    · cases z2 : (b.hi == 0)
      · exact rAdd_pd a b n1 n2 c d z1 z2 w
      · exact rAdd_pz a b n1 n2 c d z1 z2 w


theorem rSubP (a b : Sp) (n1 : a.lo ≤ a.hi) (n2 : b.lo ≤ b.hi) (ha : a.Wf) (hb : b.Wf) (w : World) : Calls Try.prog 23 #[.int .i64 4, .agg #[.int .i64 a.lo, .int .i64 a.hi], .agg #[.int .i64 b.lo, .int .i64 b.hi]] w fun e w' => e = .returned (.tuple #[.agg #[.int .i64 (subS a b).lo, .int .i64 (subS a b).hi], .bool true]) ∧ Below w.heap.size w w' := by
  cases c : (a.lo == a.hi)
  · have hp : bothPoint a b = false := by simp [bothPoint, point_eq, c]
    cases o1 : Sp.lessOk a.lo b.hi
    · rw [show subS a b = Sp.all from by simp [subS, hp, o1]]
      cases z1 : (b.lo == 0)
      · exact rSub_rmc a b n1 n2 ha hb c z1 o1 w
      · cases z2 : (b.hi == 0)
        · exact rSub_rmd a b n1 n2 ha hb c z1 z2 o1 w
        · exact rSub_rmz a b n1 n2 ha hb c z1 z2 o1 w
    · cases o2 : Sp.lessOk a.hi b.lo
      · rw [show subS a b = Sp.all from by simp [subS, hp, o1, o2]]
        cases z1 : (b.lo == 0)
        · exact rSub_rnc a b n1 n2 ha hb c z1 o1 o2 w
        · cases z2 : (b.hi == 0)
          · exact rSub_rnd a b n1 n2 ha hb c z1 z2 o1 o2 w
          · exact rSub_rnz a b n1 n2 ha hb c z1 z2 o1 o2 w
      · rw [show subS a b = hullTo [a.lo - b.hi, a.hi - b.lo] 2 from by simp [subS, hp, o1, o2]]
        cases z1 : (b.lo == 0)
        · exact rSub_ryc a b n1 n2 ha hb c z1 o1 o2 w
        · cases z2 : (b.hi == 0)
          · exact rSub_ryd a b n1 n2 ha hb c z1 z2 o1 o2 w
          · exact rSub_ryz a b n1 n2 ha hb c z1 z2 o1 o2 w
  cases d : (b.lo == b.hi)
  · have hp : bothPoint a b = false := by simp [bothPoint, point_eq, c, d]
    cases o1 : Sp.lessOk a.lo b.hi
    · rw [show subS a b = Sp.all from by simp [subS, hp, o1]]
      cases z1 : (b.lo == 0)
      · exact rSub_qmc a b n1 n2 ha hb c d z1 o1 w
      · cases z2 : (b.hi == 0)
        · exact rSub_qmd a b n1 n2 ha hb c d z1 z2 o1 w
        · exact rSub_qmz a b n1 n2 ha hb c d z1 z2 o1 w
    · cases o2 : Sp.lessOk a.hi b.lo
      · rw [show subS a b = Sp.all from by simp [subS, hp, o1, o2]]
        cases z1 : (b.lo == 0)
        · exact rSub_qnc a b n1 n2 ha hb c d z1 o1 o2 w
        · cases z2 : (b.hi == 0)
          · exact rSub_qnd a b n1 n2 ha hb c d z1 z2 o1 o2 w
          · exact rSub_qnz a b n1 n2 ha hb c d z1 z2 o1 o2 w
      · rw [show subS a b = hullTo [a.lo - b.hi, a.hi - b.lo] 2 from by simp [subS, hp, o1, o2]]
        cases z1 : (b.lo == 0)
        · exact rSub_qyc a b n1 n2 ha hb c d z1 o1 o2 w
        · cases z2 : (b.hi == 0)
          · exact rSub_qyd a b n1 n2 ha hb c d z1 z2 o1 o2 w
          · exact rSub_qyz a b n1 n2 ha hb c d z1 z2 o1 o2 w
  · rw [show subS a b = ⟨wrap64 (a.lo - b.lo), wrap64 (a.lo - b.lo)⟩ from by simp [subS, bothPoint, point_eq, c, d]]
    cases z1 : (b.lo == 0)
    · exact rSub_pc a b n1 n2 c d z1 w
    · cases z2 : (b.hi == 0)
      · exact rSub_pd a b n1 n2 c d z1 z2 w
      · exact rSub_pz a b n1 n2 c d z1 z2 w


theorem rMulP (a b : Sp) (n1 : a.lo ≤ a.hi) (n2 : b.lo ≤ b.hi) (ha : a.Wf) (hb : b.Wf) (w : World) : Calls Try.prog 23 #[.int .i64 5, .agg #[.int .i64 a.lo, .int .i64 a.hi], .agg #[.int .i64 b.lo, .int .i64 b.hi]] w fun e w' => e = .returned (.tuple #[.agg #[.int .i64 (mulS a b).lo, .int .i64 (mulS a b).hi], .bool true]) ∧ Below w.heap.size w w' := by
  cases c : (a.lo == a.hi)
  · have hp : bothPoint a b = false := by simp [bothPoint, point_eq, c]
    cases o1 : mulOk a.lo b.lo
    · rw [show mulS a b = Sp.all from by simp [mulS, hp, o1]]
      cases z1 : (b.lo == 0)
      · exact rMul_r0c a b n1 n2 ha hb c z1 o1 w
      · cases z2 : (b.hi == 0)
        · exact rMul_r0d a b n1 n2 ha hb c z1 z2 o1 w
        · exact rMul_r0z a b n1 n2 ha hb c z1 z2 o1 w
    cases o2 : mulOk a.lo b.hi
    · rw [show mulS a b = Sp.all from by simp [mulS, hp, o1, o2]]
      cases z1 : (b.lo == 0)
      · exact rMul_r1c a b n1 n2 ha hb c z1 o1 o2 w
      · cases z2 : (b.hi == 0)
        · exact rMul_r1d a b n1 n2 ha hb c z1 z2 o1 o2 w
        · exact rMul_r1z a b n1 n2 ha hb c z1 z2 o1 o2 w
    cases o3 : mulOk a.hi b.lo
    · rw [show mulS a b = Sp.all from by simp [mulS, hp, o1, o2, o3]]
      cases z1 : (b.lo == 0)
      · exact rMul_r2c a b n1 n2 ha hb c z1 o1 o2 o3 w
      · cases z2 : (b.hi == 0)
        · exact rMul_r2d a b n1 n2 ha hb c z1 z2 o1 o2 o3 w
        · exact rMul_r2z a b n1 n2 ha hb c z1 z2 o1 o2 o3 w
    cases o4 : mulOk a.hi b.hi
    · rw [show mulS a b = Sp.all from by simp [mulS, hp, o1, o2, o3, o4]]
      cases z1 : (b.lo == 0)
      · exact rMul_r3c a b n1 n2 ha hb c z1 o1 o2 o3 o4 w
      · cases z2 : (b.hi == 0)
        · exact rMul_r3d a b n1 n2 ha hb c z1 z2 o1 o2 o3 o4 w
        · exact rMul_r3z a b n1 n2 ha hb c z1 z2 o1 o2 o3 o4 w
    rw [show mulS a b = hullTo [prodV a.lo b.lo, prodV a.lo b.hi, prodV a.hi b.lo, prodV a.hi b.hi] 4 from by simp [mulS, hp, o1, o2, o3, o4, prodV_ok o1, prodV_ok o2, prodV_ok o3, prodV_ok o4]]
    cases z1 : (b.lo == 0)
    · exact rMul_r4c a b n1 n2 ha hb c z1 o1 o2 o3 o4 w
    · cases z2 : (b.hi == 0)
      · exact rMul_r4d a b n1 n2 ha hb c z1 z2 o1 o2 o3 o4 w
      · exact rMul_r4z a b n1 n2 ha hb c z1 z2 o1 o2 o3 o4 w
  cases d : (b.lo == b.hi)
  · have hp : bothPoint a b = false := by simp [bothPoint, point_eq, c, d]
    cases o1 : mulOk a.lo b.lo
    · rw [show mulS a b = Sp.all from by simp [mulS, hp, o1]]
      cases z1 : (b.lo == 0)
      · exact rMul_q0c a b n1 n2 ha hb c d z1 o1 w
      · cases z2 : (b.hi == 0)
        · exact rMul_q0d a b n1 n2 ha hb c d z1 z2 o1 w
        · exact rMul_q0z a b n1 n2 ha hb c d z1 z2 o1 w
    cases o2 : mulOk a.lo b.hi
    · rw [show mulS a b = Sp.all from by simp [mulS, hp, o1, o2]]
      cases z1 : (b.lo == 0)
      · exact rMul_q1c a b n1 n2 ha hb c d z1 o1 o2 w
      · cases z2 : (b.hi == 0)
        · exact rMul_q1d a b n1 n2 ha hb c d z1 z2 o1 o2 w
        · exact rMul_q1z a b n1 n2 ha hb c d z1 z2 o1 o2 w
    cases o3 : mulOk a.hi b.lo
    · rw [show mulS a b = Sp.all from by simp [mulS, hp, o1, o2, o3]]
      cases z1 : (b.lo == 0)
      · exact rMul_q2c a b n1 n2 ha hb c d z1 o1 o2 o3 w
      · cases z2 : (b.hi == 0)
        · exact rMul_q2d a b n1 n2 ha hb c d z1 z2 o1 o2 o3 w
        · exact rMul_q2z a b n1 n2 ha hb c d z1 z2 o1 o2 o3 w
    cases o4 : mulOk a.hi b.hi
    · rw [show mulS a b = Sp.all from by simp [mulS, hp, o1, o2, o3, o4]]
      cases z1 : (b.lo == 0)
      · exact rMul_q3c a b n1 n2 ha hb c d z1 o1 o2 o3 o4 w
      · cases z2 : (b.hi == 0)
        · exact rMul_q3d a b n1 n2 ha hb c d z1 z2 o1 o2 o3 o4 w
        · exact rMul_q3z a b n1 n2 ha hb c d z1 z2 o1 o2 o3 o4 w
    rw [show mulS a b = hullTo [prodV a.lo b.lo, prodV a.lo b.hi, prodV a.hi b.lo, prodV a.hi b.hi] 4 from by simp [mulS, hp, o1, o2, o3, o4, prodV_ok o1, prodV_ok o2, prodV_ok o3, prodV_ok o4]]
    cases z1 : (b.lo == 0)
    · exact rMul_q4c a b n1 n2 ha hb c d z1 o1 o2 o3 o4 w
    · cases z2 : (b.hi == 0)
      · exact rMul_q4d a b n1 n2 ha hb c d z1 z2 o1 o2 o3 o4 w
      · exact rMul_q4z a b n1 n2 ha hb c d z1 z2 o1 o2 o3 o4 w
  · rw [show mulS a b = ⟨wrap64 (a.lo * b.lo), wrap64 (a.lo * b.lo)⟩ from by simp [mulS, bothPoint, point_eq, c, d]]
    cases z1 : (b.lo == 0)
    · exact rMul_pc a b n1 n2 c d z1 w
    · cases z2 : (b.hi == 0)
      · exact rMul_pd a b n1 n2 c d z1 z2 w
      · exact rMul_pz a b n1 n2 c d z1 z2 w


theorem rDivP (a b : Sp) (n1 : a.lo ≤ a.hi) (n2 : b.lo ≤ b.hi) (ha : a.Wf) (hb : b.Wf) (w : World) : Calls Try.prog 23 #[.int .i64 6, .agg #[.int .i64 a.lo, .int .i64 a.hi], .agg #[.int .i64 b.lo, .int .i64 b.hi]] w fun e w' => e = .returned (.tuple #[.agg #[.int .i64 (if b.zero = true then ⟨0, 0⟩ else divS a b).lo, .int .i64 (if b.zero = true then ⟨0, 0⟩ else divS a b).hi], .bool (!b.zero)]) ∧ Below w.heap.size w w' := by
  cases c : (a.lo == a.hi)
  · skip
    cases z1 : (b.lo == 0)
    · simp only [zero_eq, z1, Bool.false_and, Bool.false_eq_true, if_false, Bool.not_false]; exact rDiv_rc a b n1 n2 ha hb c z1 w
    · cases z2 : (b.hi == 0)
      · simp only [zero_eq, z1, z2, Bool.and_false, Bool.false_eq_true, if_false, Bool.not_false]; exact rDiv_rd a b n1 n2 ha hb c z1 z2 w
      · simp only [zero_eq, z1, z2, Bool.and_true, if_true, Bool.not_true]; exact rDiv_rz a b n1 n2 c z1 z2 w
  cases d : (b.lo == b.hi)
  · skip
    cases z1 : (b.lo == 0)
    · simp only [zero_eq, z1, Bool.false_and, Bool.false_eq_true, if_false, Bool.not_false]; exact rDiv_qc a b n1 n2 ha hb c d z1 w
    · cases z2 : (b.hi == 0)
      · simp only [zero_eq, z1, z2, Bool.and_false, Bool.false_eq_true, if_false, Bool.not_false]; exact rDiv_qd a b n1 n2 ha hb c d z1 z2 w
      · simp only [zero_eq, z1, z2, Bool.and_true, if_true, Bool.not_true]; exact rDiv_qz a b n1 n2 c d z1 z2 w
  · skip
    cases z1 : (b.lo == 0)
    · simp only [zero_eq, z1, Bool.false_and, Bool.false_eq_true, if_false, Bool.not_false]; exact rDiv_pc a b n1 n2 ha hb c d z1 w
    · cases z2 : (b.hi == 0)
      · simp only [zero_eq, z1, z2, Bool.and_false, Bool.false_eq_true, if_false, Bool.not_false]; exact rDiv_pd a b n1 n2 ha hb c d z1 z2 w
      · simp only [zero_eq, z1, z2, Bool.and_true, if_true, Bool.not_true]; exact rDiv_pz a b n1 n2 c d z1 z2 w

theorem rRemP (a b : Sp) (n1 : a.lo ≤ a.hi) (n2 : b.lo ≤ b.hi) (ha : a.Wf) (hb : b.Wf) (w : World) : Calls Try.prog 23 #[.int .i64 7, .agg #[.int .i64 a.lo, .int .i64 a.hi], .agg #[.int .i64 b.lo, .int .i64 b.hi]] w fun e w' => e = .returned (.tuple #[.agg #[.int .i64 (if b.zero = true then ⟨0, 0⟩ else leftS a b).lo, .int .i64 (if b.zero = true then ⟨0, 0⟩ else leftS a b).hi], .bool (!b.zero)]) ∧ Below w.heap.size w w' := by
  cases c : (a.lo == a.hi)
  · skip
    cases z1 : (b.lo == 0)
    · simp only [zero_eq, z1, Bool.false_and, Bool.false_eq_true, if_false, Bool.not_false]; exact rRem_rc a b n1 n2 ha hb c z1 w
    · cases z2 : (b.hi == 0)
      · simp only [zero_eq, z1, z2, Bool.and_false, Bool.false_eq_true, if_false, Bool.not_false]; exact rRem_rd a b n1 n2 ha hb c z1 z2 w
      · simp only [zero_eq, z1, z2, Bool.and_true, if_true, Bool.not_true]; exact rRem_rz a b n1 n2 c z1 z2 w
  cases d : (b.lo == b.hi)
  · skip
    cases z1 : (b.lo == 0)
    · simp only [zero_eq, z1, Bool.false_and, Bool.false_eq_true, if_false, Bool.not_false]; exact rRem_qc a b n1 n2 ha hb c d z1 w
    · cases z2 : (b.hi == 0)
      · simp only [zero_eq, z1, z2, Bool.and_false, Bool.false_eq_true, if_false, Bool.not_false]; exact rRem_qd a b n1 n2 ha hb c d z1 z2 w
      · simp only [zero_eq, z1, z2, Bool.and_true, if_true, Bool.not_true]; exact rRem_qz a b n1 n2 c d z1 z2 w
  · skip
    cases z1 : (b.lo == 0)
    · simp only [zero_eq, z1, Bool.false_and, Bool.false_eq_true, if_false, Bool.not_false]; exact rRem_pc a b n1 n2 ha hb c d z1 w
    · cases z2 : (b.hi == 0)
      · simp only [zero_eq, z1, z2, Bool.and_false, Bool.false_eq_true, if_false, Bool.not_false]; exact rRem_pd a b n1 n2 ha hb c d z1 z2 w
      · simp only [zero_eq, z1, z2, Bool.and_true, if_true, Bool.not_true]; exact rRem_pz a b n1 n2 c d z1 z2 w

theorem rLtP (a b : Sp) (n1 : a.lo ≤ a.hi) (n2 : b.lo ≤ b.hi) (w : World) : Calls Try.prog 23 #[.int .i64 8, .agg #[.int .i64 a.lo, .int .i64 a.hi], .agg #[.int .i64 b.lo, .int .i64 b.hi]] w fun e w' => e = .returned (.tuple #[.agg #[.int .i64 (ltS a b).lo, .int .i64 (ltS a b).hi], .bool true]) ∧ Below w.heap.size w w' := by
  cases c : (a.lo == a.hi)
  · skip
    cases z1 : (b.lo == 0)
    · exact rLt_rc a b n1 n2 c z1 w
    · cases z2 : (b.hi == 0)
      · exact rLt_rd a b n1 n2 c z1 z2 w
      · exact rLt_rz a b n1 n2 c z1 z2 w
  cases d : (b.lo == b.hi)
  · skip
    cases z1 : (b.lo == 0)
    · exact rLt_qc a b n1 n2 c d z1 w
    · cases z2 : (b.hi == 0)
      · exact rLt_qd a b n1 n2 c d z1 z2 w
      · exact rLt_qz a b n1 n2 c d z1 z2 w
  · skip
    cases z1 : (b.lo == 0)
    · exact rLt_pc a b n1 n2 c d z1 w
    · cases z2 : (b.hi == 0)
      · exact rLt_pd a b n1 n2 c d z1 z2 w
      · exact rLt_pz a b n1 n2 c d z1 z2 w

theorem rEqP (a b : Sp) (n1 : a.lo ≤ a.hi) (n2 : b.lo ≤ b.hi) (w : World) : Calls Try.prog 23 #[.int .i64 9, .agg #[.int .i64 a.lo, .int .i64 a.hi], .agg #[.int .i64 b.lo, .int .i64 b.hi]] w fun e w' => e = .returned (.tuple #[.agg #[.int .i64 (eqS a b).lo, .int .i64 (eqS a b).hi], .bool true]) ∧ Below w.heap.size w w' := by
  cases c : (a.lo == a.hi)
  · have hp : bothPoint a b = false := by simp [bothPoint, point_eq, c]
    rw [show eqS a b = Sp.truth false (!a.meetOk b) from by simp [eqS, hp]]
    cases z1 : (b.lo == 0)
    · exact rEq_rc a b n1 n2 c z1 w
    · cases z2 : (b.hi == 0)
      · exact rEq_rd a b n1 n2 c z1 z2 w
      · exact rEq_rz a b n1 n2 c z1 z2 w
  cases d : (b.lo == b.hi)
  · have hp : bothPoint a b = false := by simp [bothPoint, point_eq, c, d]
    rw [show eqS a b = Sp.truth false (!a.meetOk b) from by simp [eqS, hp]]
    cases z1 : (b.lo == 0)
    · exact rEq_qc a b n1 n2 c d z1 w
    · cases z2 : (b.hi == 0)
      · exact rEq_qd a b n1 n2 c d z1 z2 w
      · exact rEq_qz a b n1 n2 c d z1 z2 w
  · have hp : bothPoint a b = true := by simp [bothPoint, point_eq, c, d]
    cases e1 : (a.lo == b.lo)
    · rw [show eqS a b = Sp.truth false (!a.meetOk b) from by simp [eqS, hp, decide_eq', e1]]
      cases z1 : (b.lo == 0)
      · exact rEq_pfc a b n1 n2 c d z1 e1 w
      · cases z2 : (b.hi == 0)
        · exact rEq_pfd a b n1 n2 c d z1 z2 e1 w
        · exact rEq_pfz a b n1 n2 c d z1 z2 e1 w
    · rw [show eqS a b = Sp.truth true (!a.meetOk b) from by simp [eqS, hp, decide_eq', e1]]
      cases z1 : (b.lo == 0)
      · exact rEq_pec a b n1 n2 c d z1 e1 w
      · cases z2 : (b.hi == 0)
        · exact rEq_ped a b n1 n2 c d z1 z2 e1 w
        · exact rEq_pez a b n1 n2 c d z1 z2 e1 w


theorem rNotP (a b : Sp) (n1 : a.lo ≤ a.hi) (w : World) : Calls Try.prog 23 #[.int .i64 10, .agg #[.int .i64 a.lo, .int .i64 a.hi], .agg #[.int .i64 b.lo, .int .i64 b.hi]] w fun e w' => e = .returned (.tuple #[.agg #[.int .i64 (notS a).lo, .int .i64 (notS a).hi], .bool true]) ∧ Below w.heap.size w w' := by
  cases z1 : (a.lo == 0)
  · rw [show notS a = Sp.truth false (!a.has 0) from by simp [notS, zero_eq, z1]]; exact rNot_z a b n1 z1 w
  · cases z2 : (a.hi == 0)
    · rw [show notS a = Sp.truth false (!a.has 0) from by simp [notS, zero_eq, z1, z2]]; exact rNot_y a b n1 z1 z2 w
    · rw [show notS a = Sp.truth true (!a.has 0) from by simp [notS, zero_eq, z1, z2]]; exact rNot_x a b n1 z1 z2 w

theorem rDoP (op : Int) (a b : Sp) (ha : a.Wf) (hb : b.Wf) (w : World) : Calls Try.prog 23 #[.int .i64 op, .agg #[.int .i64 a.lo, .int .i64 a.hi], .agg #[.int .i64 b.lo, .int .i64 b.hi]] w fun e w' => e = .returned (.tuple #[.agg #[.int .i64 (doSp op a b).lo, .int .i64 (doSp op a b).hi], .bool (doOk op a b)]) ∧ Below w.heap.size w w' := by
  by_cases n1 : a.hi < a.lo
  · rw [show doOk op a b = false from by simp [doOk, Sp.none, n1], show doSp op a b = ⟨0, 0⟩ from by simp [doSp, doOk, Sp.none, n1]]
    exact rNone_a a b op n1 w
  have n1' : a.lo ≤ a.hi := by omega
  by_cases o10 : op = 10
  · subst o10
    rw [show doOk 10 a b = true from by simp [doOk, Sp.none, n1], show doSp 10 a b = notS a from by simp [doSp, doOk, Sp.none, n1]]
    exact rNotP a b n1' w
  by_cases n2 : b.hi < b.lo
  · rw [show doOk op a b = false from by simp [doOk, Sp.none, n2, o10], show doSp op a b = ⟨0, 0⟩ from by simp [doSp, doOk, Sp.none, n2, o10]]
    exact rNone_b a b op (by simpa using o10) n1' n2 w
  have n2' : b.lo ≤ b.hi := by omega
  by_cases o3 : op = 3
  · subst o3
    rw [show doOk 3 a b = true from by simp [doOk, Sp.none, n1, n2], show doSp 3 a b = addS a b from by simp [doSp, doOk, Sp.none, n1, n2]]
    exact rAddP a b n1' n2' ha hb w
  by_cases o4 : op = 4
  · subst o4
    rw [show doOk 4 a b = true from by simp [doOk, Sp.none, n1, n2], show doSp 4 a b = subS a b from by simp [doSp, doOk, Sp.none, n1, n2]]
    exact rSubP a b n1' n2' ha hb w
  by_cases o5 : op = 5
  · subst o5
    rw [show doOk 5 a b = true from by simp [doOk, Sp.none, n1, n2], show doSp 5 a b = mulS a b from by simp [doSp, doOk, Sp.none, n1, n2]]
    exact rMulP a b n1' n2' ha hb w
  by_cases o6 : op = 6
  · subst o6
    rw [show doOk 6 a b = (!b.zero) from by simp [doOk, Sp.none, n1, n2], show doSp 6 a b = (if b.zero = true then ⟨0, 0⟩ else divS a b) from by simp [doSp, doOk, Sp.none, n1, n2]]
    exact rDivP a b n1' n2' ha hb w
  by_cases o7 : op = 7
  · subst o7
    rw [show doOk 7 a b = (!b.zero) from by simp [doOk, Sp.none, n1, n2], show doSp 7 a b = (if b.zero = true then ⟨0, 0⟩ else leftS a b) from by simp [doSp, doOk, Sp.none, n1, n2]]
    exact rRemP a b n1' n2' ha hb w
  by_cases o8 : op = 8
  · subst o8
    rw [show doOk 8 a b = true from by simp [doOk, Sp.none, n1, n2], show doSp 8 a b = ltS a b from by simp [doSp, doOk, Sp.none, n1, n2]]
    exact rLtP a b n1' n2' w
  by_cases o9 : op = 9
  · subst o9
    rw [show doOk 9 a b = true from by simp [doOk, Sp.none, n1, n2], show doSp 9 a b = eqS a b from by simp [doSp, doOk, Sp.none, n1, n2]]
    exact rEqP a b n1' n2' w
  rw [show doOk op a b = false from by simp [doOk, o3, o4, o5, o6, o7, o8, o9, o10], show doSp op a b = ⟨0, 0⟩ from by simp [doSp, doOk, o3, o4, o5, o6, o7, o8, o9, o10]]
  cases c : (a.lo == a.hi)
  · skip
    cases z1 : (b.lo == 0)
    · exact rOther_rc a b op (by simpa using o3) (by simpa using o4) (by simpa using o5) (by simpa using o6) (by simpa using o7) (by simpa using o8) (by simpa using o9) (by simpa using o10) n1' n2' c z1 w
    · cases z2 : (b.hi == 0)
      · exact rOther_rd a b op (by simpa using o3) (by simpa using o4) (by simpa using o5) (by simpa using o6) (by simpa using o7) (by simpa using o8) (by simpa using o9) (by simpa using o10) n1' n2' c z1 z2 w
      · exact rOther_rz a b op (by simpa using o3) (by simpa using o4) (by simpa using o5) (by simpa using o6) (by simpa using o7) (by simpa using o8) (by simpa using o9) (by simpa using o10) n1' n2' c z1 z2 w
  cases d : (b.lo == b.hi)
  · skip
    cases z1 : (b.lo == 0)
    · exact rOther_qc a b op (by simpa using o3) (by simpa using o4) (by simpa using o5) (by simpa using o6) (by simpa using o7) (by simpa using o8) (by simpa using o9) (by simpa using o10) n1' n2' c d z1 w
    · cases z2 : (b.hi == 0)
      · exact rOther_qd a b op (by simpa using o3) (by simpa using o4) (by simpa using o5) (by simpa using o6) (by simpa using o7) (by simpa using o8) (by simpa using o9) (by simpa using o10) n1' n2' c d z1 z2 w
      · exact rOther_qz a b op (by simpa using o3) (by simpa using o4) (by simpa using o5) (by simpa using o6) (by simpa using o7) (by simpa using o8) (by simpa using o9) (by simpa using o10) n1' n2' c d z1 z2 w
  · skip
    cases z1 : (b.lo == 0)
    · exact rOther_pc a b op (by simpa using o3) (by simpa using o4) (by simpa using o5) (by simpa using o6) (by simpa using o7) (by simpa using o8) (by simpa using o9) (by simpa using o10) n1' n2' c d z1 w
    · cases z2 : (b.hi == 0)
      · exact rOther_pd a b op (by simpa using o3) (by simpa using o4) (by simpa using o5) (by simpa using o6) (by simpa using o7) (by simpa using o8) (by simpa using o9) (by simpa using o10) n1' n2' c d z1 z2 w
      · exact rOther_pz a b op (by simpa using o3) (by simpa using o4) (by simpa using o5) (by simpa using o6) (by simpa using o7) (by simpa using o8) (by simpa using o9) (by simpa using o10) n1' n2' c d z1 z2 w

end Go.Proofs.Ytdoikgjdjdgnbaa
