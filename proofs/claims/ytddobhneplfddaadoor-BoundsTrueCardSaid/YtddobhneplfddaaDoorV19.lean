/-
  Layer 16 (bounds): DoJ.
-/
import Derived.Test.YtddobhneplfddaaDoorV16
import Derived.Test.YtddobhneplfddaaDoorV17
namespace Go.Proofs.YtddobhneplfddaaDoor
set_option maxRecDepth 100000
open Go.RowKit
set_option linter.unusedSimpArgs false
set_option linter.unusedVariables false

theorem mulRes_eq {a b : Sp} (h : bothPoint a b = false) : mulS a b = mulRes a b := by
  have hp : prodOk a b 4 = (mulOk a.lo b.lo && mulOk a.lo b.hi && mulOk a.hi b.lo && mulOk a.hi b.hi) := by simp [prodOk, mx4, my4]
  unfold mulS mulRes
  rw [hp, h, if_neg (by decide)]
  cases hm : (mulOk a.lo b.lo && mulOk a.lo b.hi && mulOk a.hi b.lo && mulOk a.hi b.hi)
  · rfl
  · have hm' := hm
    simp only [Bool.and_eq_true] at hm'
    obtain ⟨⟨⟨h1, h2⟩, h3⟩, h4⟩ := hm'
    rw [show prods a b 4 = [a.lo * b.lo, a.lo * b.hi, a.hi * b.lo, a.hi * b.hi] from by simp [prods, mx4, my4, mulOk_wrap h1, mulOk_wrap h2, mulOk_wrap h3, mulOk_wrap h4]]

theorem doAddP (a b : Sp) (n1 : a.lo ≤ a.hi) (n2 : b.lo ≤ b.hi) (ha : a.Wf) (hb : b.Wf) (w : World) : Calls Tryd.prog 55 #[.int .i64 3, .agg #[.int .i64 a.lo, .int .i64 a.hi], .agg #[.int .i64 b.lo, .int .i64 b.hi]] w fun e w' => e = .returned (.tuple #[.agg #[.int .i64 (addS a b).lo, .int .i64 (addS a b).hi], .bool true]) ∧ Below w.heap.size w w' := by
  cases c : (a.lo == a.hi)
  · have hp : bothPoint a b = false := by simp [bothPoint, point_eq, c]
    cases o1 : Sp.sumOk a.lo b.lo
    · rw [show addS a b = Sp.all from by simp [addS, hp, o1]]; exact doAdd_rm a b n1 n2 ha hb c o1 w
    · cases o2 : Sp.sumOk a.hi b.hi
      · rw [show addS a b = Sp.all from by simp [addS, hp, o1, o2]]; exact doAdd_rn a b n1 n2 ha hb c o1 o2 w
      · rw [show addS a b = hullTo [wrap64 (a.lo + b.lo), wrap64 (a.hi + b.hi)] 2 from by simp [addS, hp, o1, o2, sumOk_wrap o1, sumOk_wrap o2]]; exact doAdd_ry a b n1 n2 ha hb c o1 o2 w
  cases d : (b.lo == b.hi)
  · have hp : bothPoint a b = false := by simp [bothPoint, point_eq, c, d]
    cases o1 : Sp.sumOk a.lo b.lo
    · rw [show addS a b = Sp.all from by simp [addS, hp, o1]]; exact doAdd_qm a b n1 n2 ha hb c d o1 w
    · cases o2 : Sp.sumOk a.hi b.hi
      · rw [show addS a b = Sp.all from by simp [addS, hp, o1, o2]]; exact doAdd_qn a b n1 n2 ha hb c d o1 o2 w
      · rw [show addS a b = hullTo [wrap64 (a.lo + b.lo), wrap64 (a.hi + b.hi)] 2 from by simp [addS, hp, o1, o2, sumOk_wrap o1, sumOk_wrap o2]]; exact doAdd_qy a b n1 n2 ha hb c d o1 o2 w
  · rw [show addS a b = ⟨wrap64 (a.lo + b.lo), wrap64 (a.lo + b.lo)⟩ from by simp [addS, bothPoint, point_eq, c, d]]
    exact doAdd_p a b n1 n2 c d w

theorem doSubP (a b : Sp) (n1 : a.lo ≤ a.hi) (n2 : b.lo ≤ b.hi) (ha : a.Wf) (hb : b.Wf) (w : World) : Calls Tryd.prog 55 #[.int .i64 4, .agg #[.int .i64 a.lo, .int .i64 a.hi], .agg #[.int .i64 b.lo, .int .i64 b.hi]] w fun e w' => e = .returned (.tuple #[.agg #[.int .i64 (subS a b).lo, .int .i64 (subS a b).hi], .bool true]) ∧ Below w.heap.size w w' := by
  cases c : (a.lo == a.hi)
  · have hp : bothPoint a b = false := by simp [bothPoint, point_eq, c]
    cases o1 : Sp.lessOk a.lo b.hi
    · rw [show subS a b = Sp.all from by simp [subS, hp, o1]]; exact doSub_rm a b n1 n2 ha hb c o1 w
    · cases o2 : Sp.lessOk a.hi b.lo
      · rw [show subS a b = Sp.all from by simp [subS, hp, o1, o2]]; exact doSub_rn a b n1 n2 ha hb c o1 o2 w
      · rw [show subS a b = hullTo [wrap64 (a.lo - b.hi), wrap64 (a.hi - b.lo)] 2 from by simp [subS, hp, o1, o2, lessOk_wrap o1, lessOk_wrap o2]]; exact doSub_ry a b n1 n2 ha hb c o1 o2 w
  cases d : (b.lo == b.hi)
  · have hp : bothPoint a b = false := by simp [bothPoint, point_eq, c, d]
    cases o1 : Sp.lessOk a.lo b.hi
    · rw [show subS a b = Sp.all from by simp [subS, hp, o1]]; exact doSub_qm a b n1 n2 ha hb c d o1 w
    · cases o2 : Sp.lessOk a.hi b.lo
      · rw [show subS a b = Sp.all from by simp [subS, hp, o1, o2]]; exact doSub_qn a b n1 n2 ha hb c d o1 o2 w
      · rw [show subS a b = hullTo [wrap64 (a.lo - b.hi), wrap64 (a.hi - b.lo)] 2 from by simp [subS, hp, o1, o2, lessOk_wrap o1, lessOk_wrap o2]]; exact doSub_qy a b n1 n2 ha hb c d o1 o2 w
  · rw [show subS a b = ⟨wrap64 (a.lo - b.lo), wrap64 (a.lo - b.lo)⟩ from by simp [subS, bothPoint, point_eq, c, d]]
    exact doSub_p a b n1 n2 c d w

theorem doMulP (a b : Sp) (n1 : a.lo ≤ a.hi) (n2 : b.lo ≤ b.hi) (ha : a.Wf) (hb : b.Wf) (w : World) : Calls Tryd.prog 55 #[.int .i64 5, .agg #[.int .i64 a.lo, .int .i64 a.hi], .agg #[.int .i64 b.lo, .int .i64 b.hi]] w fun e w' => e = .returned (.tuple #[.agg #[.int .i64 (mulS a b).lo, .int .i64 (mulS a b).hi], .bool true]) ∧ Below w.heap.size w w' := by
  cases c : (a.lo == a.hi)
  · rw [show mulS a b = mulRes a b from mulRes_eq (by simp [bothPoint, point_eq, c])]; exact doMul_r a b n1 n2 ha hb c w
  cases d : (b.lo == b.hi)
  · rw [show mulS a b = mulRes a b from mulRes_eq (by simp [bothPoint, point_eq, c, d])]; exact doMul_q a b n1 n2 ha hb c d w
  · rw [show mulS a b = ⟨wrap64 (a.lo * b.lo), wrap64 (a.lo * b.lo)⟩ from by simp [mulS, bothPoint, point_eq, c, d]]
    exact doMul_p a b n1 n2 c d w

theorem doDivP (a b : Sp) (n1 : a.lo ≤ a.hi) (n2 : b.lo ≤ b.hi) (ha : a.Wf) (hb : b.Wf) (w : World) : Calls Tryd.prog 55 #[.int .i64 6, .agg #[.int .i64 a.lo, .int .i64 a.hi], .agg #[.int .i64 b.lo, .int .i64 b.hi]] w fun e w' => e = .returned (.tuple #[.agg #[.int .i64 (if b.zero = true then ⟨0, 0⟩ else divS a b).lo, .int .i64 (if b.zero = true then ⟨0, 0⟩ else divS a b).hi], .bool (!b.zero)]) ∧ Below w.heap.size w w' := by
  cases c : (a.lo == a.hi)
  · skip
    cases z1 : (b.lo == 0)
    · simp only [zero_eq, z1, Bool.false_and, Bool.false_eq_true, if_false, Bool.not_false]; exact doDiv_rc a b n1 n2 c z1 w
    · cases z2 : (b.hi == 0)
      · simp only [zero_eq, z1, z2, Bool.and_false, Bool.false_eq_true, if_false, Bool.not_false]; exact doDiv_rd a b n1 n2 c z1 z2 w
      · simp only [zero_eq, z1, z2, Bool.and_true, if_true, Bool.not_true]; exact doDiv_rz a b n1 n2 c z1 z2 w
  cases d : (b.lo == b.hi)
  · skip
    cases z1 : (b.lo == 0)
    · simp only [zero_eq, z1, Bool.false_and, Bool.false_eq_true, if_false, Bool.not_false]; exact doDiv_qc a b n1 n2 c d z1 w
    · cases z2 : (b.hi == 0)
      · simp only [zero_eq, z1, z2, Bool.and_false, Bool.false_eq_true, if_false, Bool.not_false]; exact doDiv_qd a b n1 n2 c d z1 z2 w
      · simp only [zero_eq, z1, z2, Bool.and_true, if_true, Bool.not_true]; exact doDiv_qz a b n1 n2 c d z1 z2 w
  · skip
    cases z1 : (b.lo == 0)
    · simp only [zero_eq, z1, Bool.false_and, Bool.false_eq_true, if_false, Bool.not_false]; exact doDiv_pc a b n1 n2 c d z1 w
    · cases z2 : (b.hi == 0)
      · simp only [zero_eq, z1, z2, Bool.and_false, Bool.false_eq_true, if_false, Bool.not_false]; exact doDiv_pd a b n1 n2 c d z1 z2 w
      · simp only [zero_eq, z1, z2, Bool.and_true, if_true, Bool.not_true]; exact doDiv_pz a b n1 n2 c d z1 z2 w

theorem doRemP (a b : Sp) (n1 : a.lo ≤ a.hi) (n2 : b.lo ≤ b.hi) (ha : a.Wf) (hb : b.Wf) (w : World) : Calls Tryd.prog 55 #[.int .i64 7, .agg #[.int .i64 a.lo, .int .i64 a.hi], .agg #[.int .i64 b.lo, .int .i64 b.hi]] w fun e w' => e = .returned (.tuple #[.agg #[.int .i64 (if b.zero = true then ⟨0, 0⟩ else leftS a b).lo, .int .i64 (if b.zero = true then ⟨0, 0⟩ else leftS a b).hi], .bool (!b.zero)]) ∧ Below w.heap.size w w' := by
  cases c : (a.lo == a.hi)
  · skip
    cases z1 : (b.lo == 0)
    · simp only [zero_eq, z1, Bool.false_and, Bool.false_eq_true, if_false, Bool.not_false]; exact doRem_rc a b n1 n2 ha hb c z1 w
    · cases z2 : (b.hi == 0)
      · simp only [zero_eq, z1, z2, Bool.and_false, Bool.false_eq_true, if_false, Bool.not_false]; exact doRem_rd a b n1 n2 ha hb c z1 z2 w
      · simp only [zero_eq, z1, z2, Bool.and_true, if_true, Bool.not_true]; exact doRem_rz a b n1 n2 c z1 z2 w
  cases d : (b.lo == b.hi)
  · skip
    cases z1 : (b.lo == 0)
    · simp only [zero_eq, z1, Bool.false_and, Bool.false_eq_true, if_false, Bool.not_false]; exact doRem_qc a b n1 n2 ha hb c d z1 w
    · cases z2 : (b.hi == 0)
      · simp only [zero_eq, z1, z2, Bool.and_false, Bool.false_eq_true, if_false, Bool.not_false]; exact doRem_qd a b n1 n2 ha hb c d z1 z2 w
      · simp only [zero_eq, z1, z2, Bool.and_true, if_true, Bool.not_true]; exact doRem_qz a b n1 n2 c d z1 z2 w
  · skip
    cases z1 : (b.lo == 0)
    · simp only [zero_eq, z1, Bool.false_and, Bool.false_eq_true, if_false, Bool.not_false]; exact doRem_pc a b n1 n2 ha hb c d z1 w
    · cases z2 : (b.hi == 0)
      · simp only [zero_eq, z1, z2, Bool.and_false, Bool.false_eq_true, if_false, Bool.not_false]; exact doRem_pd a b n1 n2 ha hb c d z1 z2 w
      · simp only [zero_eq, z1, z2, Bool.and_true, if_true, Bool.not_true]; exact doRem_pz a b n1 n2 c d z1 z2 w

theorem doLtP (a b : Sp) (n1 : a.lo ≤ a.hi) (n2 : b.lo ≤ b.hi) (w : World) : Calls Tryd.prog 55 #[.int .i64 8, .agg #[.int .i64 a.lo, .int .i64 a.hi], .agg #[.int .i64 b.lo, .int .i64 b.hi]] w fun e w' => e = .returned (.tuple #[.agg #[.int .i64 (ltS a b).lo, .int .i64 (ltS a b).hi], .bool true]) ∧ Below w.heap.size w w' := by
  cases c : (a.lo == a.hi)
  · exact doLt_r a b n1 n2 c w
  cases d : (b.lo == b.hi)
  · exact doLt_q a b n1 n2 c d w
  · exact doLt_p a b n1 n2 c d w

theorem doEqP (a b : Sp) (n1 : a.lo ≤ a.hi) (n2 : b.lo ≤ b.hi) (w : World) : Calls Tryd.prog 55 #[.int .i64 9, .agg #[.int .i64 a.lo, .int .i64 a.hi], .agg #[.int .i64 b.lo, .int .i64 b.hi]] w fun e w' => e = .returned (.tuple #[.agg #[.int .i64 (eqS a b).lo, .int .i64 (eqS a b).hi], .bool true]) ∧ Below w.heap.size w w' := by
  cases c : (a.lo == a.hi)
  · have hp : bothPoint a b = false := by simp [bothPoint, point_eq, c]
    rw [show eqS a b = Sp.truth false (!a.meetOk b) from by simp [eqS, hp]]
    cases e1 : (a.lo == b.lo)
    · exact doEq_rg a b n1 n2 c e1 w
    · cases e2 : (a.hi == b.hi)
      · exact doEq_rf a b n1 n2 c e1 e2 w
      · exact doEq_re a b n1 n2 c e1 e2 w
  cases d : (b.lo == b.hi)
  · have hp : bothPoint a b = false := by simp [bothPoint, point_eq, c, d]
    rw [show eqS a b = Sp.truth false (!a.meetOk b) from by simp [eqS, hp]]
    cases e1 : (a.lo == b.lo)
    · exact doEq_qg a b n1 n2 c d e1 w
    · cases e2 : (a.hi == b.hi)
      · exact doEq_qf a b n1 n2 c d e1 e2 w
      · exfalso
        simp at c d e1 e2; omega
  · have hp : bothPoint a b = true := by simp [bothPoint, point_eq, c, d]
    cases e1 : (a.lo == b.lo)
    · rw [show eqS a b = Sp.truth false (!a.meetOk b) from by simp [eqS, hp, decide_eq', e1]]
      exact doEq_pg a b n1 n2 c d e1 w
    · cases e2 : (a.hi == b.hi)
      · exfalso
        simp at c d e1 e2; omega
      · rw [show eqS a b = Sp.truth true (!a.meetOk b) from by simp [eqS, hp, decide_eq', e1]]
        exact doEq_pe a b n1 n2 c d e1 e2 w

theorem doNotP (a b : Sp) (n1 : a.lo ≤ a.hi) (w : World) : Calls Tryd.prog 55 #[.int .i64 10, .agg #[.int .i64 a.lo, .int .i64 a.hi], .agg #[.int .i64 b.lo, .int .i64 b.hi]] w fun e w' => e = .returned (.tuple #[.agg #[.int .i64 (notS a).lo, .int .i64 (notS a).hi], .bool true]) ∧ Below w.heap.size w w' := by
  by_cases n2 : b.lo ≤ b.hi
  · cases c : (a.lo == a.hi)
    · skip
      cases z1 : (a.lo == 0)
      · rw [show notS a = Sp.truth false (!a.has 0) from by simp [notS, zero_eq, z1]]; exact doNot_arz a b n1 n2 c z1 w
      · cases z2 : (a.hi == 0)
        · rw [show notS a = Sp.truth false (!a.has 0) from by simp [notS, zero_eq, z1, z2]]; exact doNot_ary a b n1 n2 c z1 z2 w
        · rw [show notS a = Sp.truth true (!a.has 0) from by simp [notS, zero_eq, z1, z2]]; exact doNot_arx a b n1 n2 c z1 z2 w
    cases d : (b.lo == b.hi)
    · skip
      cases z1 : (a.lo == 0)
      · rw [show notS a = Sp.truth false (!a.has 0) from by simp [notS, zero_eq, z1]]; exact doNot_aqz a b n1 n2 c d z1 w
      · cases z2 : (a.hi == 0)
        · rw [show notS a = Sp.truth false (!a.has 0) from by simp [notS, zero_eq, z1, z2]]; exact doNot_aqy a b n1 n2 c d z1 z2 w
        · rw [show notS a = Sp.truth true (!a.has 0) from by simp [notS, zero_eq, z1, z2]]; exact doNot_aqx a b n1 n2 c d z1 z2 w
    · skip
      cases z1 : (a.lo == 0)
      · rw [show notS a = Sp.truth false (!a.has 0) from by simp [notS, zero_eq, z1]]; exact doNot_apz a b n1 n2 c d z1 w
      · cases z2 : (a.hi == 0)
        · rw [show notS a = Sp.truth false (!a.has 0) from by simp [notS, zero_eq, z1, z2]]; exact doNot_apy a b n1 n2 c d z1 z2 w
        · rw [show notS a = Sp.truth true (!a.has 0) from by simp [notS, zero_eq, z1, z2]]; exact doNot_apx a b n1 n2 c d z1 z2 w
  · have n2 : b.hi < b.lo := by omega
    cases c : (a.lo == a.hi)
    · skip
      cases z1 : (a.lo == 0)
      · rw [show notS a = Sp.truth false (!a.has 0) from by simp [notS, zero_eq, z1]]; exact doNot_brz a b n1 n2 c z1 w
      · cases z2 : (a.hi == 0)
        · rw [show notS a = Sp.truth false (!a.has 0) from by simp [notS, zero_eq, z1, z2]]; exact doNot_bry a b n1 n2 c z1 z2 w
        · rw [show notS a = Sp.truth true (!a.has 0) from by simp [notS, zero_eq, z1, z2]]; exact doNot_brx a b n1 n2 c z1 z2 w
    cases d : (b.lo == b.hi)
    · skip
      cases z1 : (a.lo == 0)
      · rw [show notS a = Sp.truth false (!a.has 0) from by simp [notS, zero_eq, z1]]; exact doNot_bqz a b n1 n2 c d z1 w
      · cases z2 : (a.hi == 0)
        · rw [show notS a = Sp.truth false (!a.has 0) from by simp [notS, zero_eq, z1, z2]]; exact doNot_bqy a b n1 n2 c d z1 z2 w
        · rw [show notS a = Sp.truth true (!a.has 0) from by simp [notS, zero_eq, z1, z2]]; exact doNot_bqx a b n1 n2 c d z1 z2 w
    · exfalso
      simp at d; omega

theorem doP (op : Int) (a b : Sp) (ha : a.Wf) (hb : b.Wf) (w : World) : Calls Tryd.prog 55 #[.int .i64 op, .agg #[.int .i64 a.lo, .int .i64 a.hi], .agg #[.int .i64 b.lo, .int .i64 b.hi]] w fun e w' => e = .returned (.tuple #[.agg #[.int .i64 (doSp op a b).lo, .int .i64 (doSp op a b).hi], .bool (doOk op a b)]) ∧ Below w.heap.size w w' := by
  by_cases n1 : a.hi < a.lo
  · rw [show doOk op a b = false from by simp [doOk, Sp.none, n1], show doSp op a b = ⟨0, 0⟩ from by simp [doSp, doOk, Sp.none, n1]]
    exact doNone_a a b op n1 w
  have n1' : a.lo ≤ a.hi := by omega
  by_cases o10 : op = 10
  · subst o10
    rw [show doOk 10 a b = true from by simp [doOk, Sp.none, n1], show doSp 10 a b = notS a from by simp [doSp, doOk, Sp.none, n1]]
    exact doNotP a b n1' w
  by_cases n2 : b.hi < b.lo
  · rw [show doOk op a b = false from by simp [doOk, Sp.none, n2, o10], show doSp op a b = ⟨0, 0⟩ from by simp [doSp, doOk, Sp.none, n2, o10]]
    exact doNone_b a b op (by simpa using o10) (by simpa using o10) n1' n2 w
  have n2' : b.lo ≤ b.hi := by omega
  by_cases o3 : op = 3
  · subst o3
    rw [show doOk 3 a b = true from by simp [doOk, Sp.none, n1, n2], show doSp 3 a b = addS a b from by simp [doSp, doOk, Sp.none, n1, n2]]
    exact doAddP a b n1' n2' ha hb w
  by_cases o4 : op = 4
  · subst o4
    rw [show doOk 4 a b = true from by simp [doOk, Sp.none, n1, n2], show doSp 4 a b = subS a b from by simp [doSp, doOk, Sp.none, n1, n2]]
    exact doSubP a b n1' n2' ha hb w
  by_cases o5 : op = 5
  · subst o5
    rw [show doOk 5 a b = true from by simp [doOk, Sp.none, n1, n2], show doSp 5 a b = mulS a b from by simp [doSp, doOk, Sp.none, n1, n2]]
    exact doMulP a b n1' n2' ha hb w
  by_cases o6 : op = 6
  · subst o6
    rw [show doOk 6 a b = (!b.zero) from by simp [doOk, Sp.none, n1, n2], show doSp 6 a b = (if b.zero = true then ⟨0, 0⟩ else divS a b) from by simp [doSp, doOk, Sp.none, n1, n2]]
    exact doDivP a b n1' n2' ha hb w
  by_cases o7 : op = 7
  · subst o7
    rw [show doOk 7 a b = (!b.zero) from by simp [doOk, Sp.none, n1, n2], show doSp 7 a b = (if b.zero = true then ⟨0, 0⟩ else leftS a b) from by simp [doSp, doOk, Sp.none, n1, n2]]
    exact doRemP a b n1' n2' ha hb w
  by_cases o8 : op = 8
  · subst o8
    rw [show doOk 8 a b = true from by simp [doOk, Sp.none, n1, n2], show doSp 8 a b = ltS a b from by simp [doSp, doOk, Sp.none, n1, n2]]
    exact doLtP a b n1' n2' w
  by_cases o9 : op = 9
  · subst o9
    rw [show doOk 9 a b = true from by simp [doOk, Sp.none, n1, n2], show doSp 9 a b = eqS a b from by simp [doSp, doOk, Sp.none, n1, n2]]
    exact doEqP a b n1' n2' w
  rw [show doOk op a b = false from by simp [doOk, o3, o4, o5, o6, o7, o8, o9, o10], show doSp op a b = ⟨0, 0⟩ from by simp [doSp, doOk, o3, o4, o5, o6, o7, o8, o9, o10]]
  cases c : (a.lo == a.hi)
  · exact doOther_r a b op (by simpa using o3) (by simpa using o4) (by simpa using o5) (by simpa using o6) (by simpa using o7) (by simpa using o8) (by simpa using o9) (by simpa using o10) (by simpa using o10) n1' n2' c w
  cases d : (b.lo == b.hi)
  · exact doOther_q a b op (by simpa using o3) (by simpa using o4) (by simpa using o5) (by simpa using o6) (by simpa using o7) (by simpa using o8) (by simpa using o9) (by simpa using o10) (by simpa using o10) n1' n2' c d w
  · exact doOther_p a b op (by simpa using o3) (by simpa using o4) (by simpa using o5) (by simpa using o6) (by simpa using o7) (by simpa using o8) (by simpa using o9) (by simpa using o10) (by simpa using o10) n1' n2' c d w

end Go.Proofs.YtddobhneplfddaaDoor
