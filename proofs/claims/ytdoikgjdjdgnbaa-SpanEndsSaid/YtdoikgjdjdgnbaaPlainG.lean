/-
  Layer 8 (span): what Do tells has the machine's value; and of spans that have more it tells no less. No program in sight.
-/
import Derived.Test.YtdoikgjdjdgnbaaPlainJ
import Derived.Test.YtdoikgjdjdgnbaaEnds
import Derived.Test.YtdoikgjdjdgnbaaOpR
namespace Go.Proofs.Ytdoikgjdjdgnbaa
open Go.RowKit
set_option linter.unusedSimpArgs false
set_option linter.unusedVariables false

/-- Does a number lie in a span? -/
def Sp.In (s : Sp) (v : Int) : Prop := s.lo ≤ v ∧ v ≤ s.hi
/-- Between two numbers, whichever is the greater one. -/
def Btw (u v w : Int) : Prop := (u ≤ w ∧ w ≤ v) ∨ (v ≤ w ∧ w ≤ u)
theorem in_btw {s : Sp} {u v w : Int} (h1 : s.In u) (h2 : s.In v) (h : Btw u v w) : s.In w := by
  unfold Sp.In Btw at *; omega
theorem all_in (n : Int) : Sp.all.In (wrap64 n) := by
  have := wrap64_In n
  unfold In64 at this
  simpa [Sp.In, Sp.all, Sp.least, Sp.greatest] using this
theorem hull_mem (zs : List Int) : ∀ k i, i < k → (hullTo zs k).In (nthI zs i)
  | 0, i, h => absurd h (by omega)
  | k + 1, i, h => by
    have hn := hullTo_next zs k
    rcases Nat.lt_or_ge i k with h1 | h1
    · have := hull_mem zs k i h1
      rw [hn]
      unfold Sp.In at *
      simp only [Sp.mn, Sp.mx]
      constructor <;> split <;> omega
    · obtain rfl : i = k := by omega
      rw [hn]
      unfold Sp.In
      simp only [Sp.mn, Sp.mx]
      constructor <;> split <;> omega
theorem hull_sub {zs : List Int} {t : Sp} (h0 : t.In (nthI zs 0)) : ∀ k, (∀ i, i < k → t.In (nthI zs i)) → t.lo ≤ (hullTo zs k).lo ∧ (hullTo zs k).hi ≤ t.hi
  | 0, _ => h0
  | k + 1, h => by
    have ih := hull_sub h0 k (fun i hi => h i (by omega))
    have hk := h k (by omega)
    rw [hullTo_next]
    unfold Sp.In at hk
    simp only [Sp.mn, Sp.mx]
    constructor <;> split <;> omega
theorem mem_nth {zs : List Int} {z : Int} (h : z ∈ zs) : ∃ i, i < zs.length ∧ nthI zs i = z := by
  obtain ⟨i, hi, e⟩ := List.getElem_of_mem h
  exact ⟨i, hi, by simp [nthI, hi, e]⟩
theorem nth_mem {zs : List Int} {i : Nat} (h : i < zs.length) : nthI zs i ∈ zs := by
  simp [nthI, h]
theorem mul_btw {l h x : Int} (y : Int) (h1 : l ≤ x) (h2 : x ≤ h) : Btw (l * y) (h * y) (x * y) := by
  rcases Int.le_total 0 y with hy | hy
  · exact .inl ⟨Int.mul_le_mul_of_nonneg_right h1 hy, Int.mul_le_mul_of_nonneg_right h2 hy⟩
  · exact .inr ⟨Int.mul_le_mul_of_nonpos_right h2 hy, Int.mul_le_mul_of_nonpos_right h1 hy⟩
/-- A product lies where the four products of the ends lie. -/
theorem mul_in {s a b : Sp} {x y : Int} (hx : a.In x) (hy : b.In y) (h1 : s.In (a.lo * b.lo)) (h2 : s.In (a.lo * b.hi)) (h3 : s.In (a.hi * b.lo)) (h4 : s.In (a.hi * b.hi)) : s.In (x * y) := by
  have e : ∀ z, Btw (z * b.lo) (z * b.hi) (z * y) := fun z => by
    have := mul_btw z hy.1 hy.2
    rwa [Int.mul_comm b.lo, Int.mul_comm b.hi, Int.mul_comm y] at this
  exact in_btw (in_btw h1 h2 (e a.lo)) (in_btw h3 h4 (e a.hi)) (mul_btw y hx.1 hx.2)
theorem tdiv_btw_x {l h x d : Int} (hd : d ≠ 0) (h1 : l ≤ x) (h2 : x ≤ h) : Btw (l.tdiv d) (h.tdiv d) (x.tdiv d) := by
  rcases Int.lt_or_gt_of_ne hd with hd | hd
  · obtain ⟨e, rfl⟩ : ∃ e, d = -e := ⟨-d, by omega⟩
    rw [Int.tdiv_neg, Int.tdiv_neg, Int.tdiv_neg]
    have a1 := Int.tdiv_le_tdiv (c := e) (by omega) h1
    have a2 := Int.tdiv_le_tdiv (c := e) (by omega) h2
    exact .inr ⟨by omega, by omega⟩
  · exact .inl ⟨Int.tdiv_le_tdiv hd h1, Int.tdiv_le_tdiv hd h2⟩
theorem tdiv_pos_mono {x l y : Int} (hx : 0 ≤ x) (hl : 0 < l) (h : l ≤ y) : x.tdiv y ≤ x.tdiv l := by
  have e1 : (x.tdiv y).natAbs = x.natAbs / y.natAbs := Int.natAbs_tdiv x y
  have e2 : (x.tdiv l).natAbs = x.natAbs / l.natAbs := Int.natAbs_tdiv x l
  have h3 : x.natAbs / y.natAbs ≤ x.natAbs / l.natAbs := Nat.div_le_div_left (by omega) (by omega)
  have p1 := Int.tdiv_nonneg hx (show 0 ≤ y by omega)
  have p2 := Int.tdiv_nonneg hx (show 0 ≤ l by omega)
  omega
/-- By divisors of one sign: between the quotients by the outer ones. -/
theorem tdiv_btw_d {x l h y : Int} (hs : 0 < l ∨ h < 0) (h1 : l ≤ y) (h2 : y ≤ h) : Btw (x.tdiv l) (x.tdiv h) (x.tdiv y) := by
  have pos : ∀ {l h y : Int}, 0 < l → l ≤ y → y ≤ h → Btw (x.tdiv l) (x.tdiv h) (x.tdiv y) := fun {l h y} hl h1 h2 => by
    rcases Int.le_total 0 x with hx | hx
    · exact .inr ⟨tdiv_pos_mono hx (by omega) h2, tdiv_pos_mono hx hl h1⟩
    · obtain ⟨z, rfl⟩ : ∃ z, x = -z := ⟨-x, by omega⟩
      rw [Int.neg_tdiv, Int.neg_tdiv, Int.neg_tdiv]
      have a1 := tdiv_pos_mono (x := z) (by omega) hl h1
      have a2 := tdiv_pos_mono (x := z) (l := y) (by omega) (by omega) h2
      exact .inl ⟨by omega, by omega⟩
  rcases hs with hs | hs
  · exact pos hs h1 h2
  · obtain ⟨l', rfl⟩ : ∃ e, l = -e := ⟨-l, by omega⟩
    obtain ⟨h', rfl⟩ : ∃ e, h = -e := ⟨-h, by omega⟩
    obtain ⟨y', rfl⟩ : ∃ e, y = -e := ⟨-y, by omega⟩
    rw [Int.tdiv_neg, Int.tdiv_neg, Int.tdiv_neg]
    have := pos (l := h') (h := l') (y := y') (by omega) (by omega) (by omega)
    unfold Btw at *
    omega
theorem quots_mem {a b : Sp} {k : Nat} (h : candOk b k = true) : ∀ n, k < n → wrap64 (a.lo.tdiv (cand b k)) ∈ quots a b n ∧ wrap64 (a.hi.tdiv (cand b k)) ∈ quots a b n
  | 0, hn => absurd hn (by omega)
  | n + 1, hn => by
    rcases Nat.lt_or_ge k n with h1 | h1
    · have := quots_mem (a := a) h n h1
      simp only [quots]; split <;> simp [this]
    · obtain rfl : k = n := by omega
      rw [quots_yes h]; simp
theorem quots_all {a b t : Sp} (h : ∀ k, k < 4 → candOk b k = true → t.In (wrap64 (a.lo.tdiv (cand b k))) ∧ t.In (wrap64 (a.hi.tdiv (cand b k)))) : ∀ n, n ≤ 4 → ∀ z, z ∈ quots a b n → t.In z
  | 0, _, z, hz => by simp [quots] at hz
  | n + 1, hn, z, hz => by
    have ih := quots_all h n (by omega) z
    simp only [quots] at hz
    split at hz
    · rename_i hc
      have := h n (by omega) hc
      simp only [List.mem_append, List.mem_cons, List.not_mem_nil, or_false] at hz
      rcases hz with hz | rfl | rfl
      · exact ih hz
      · exact this.1
      · exact this.2
    · exact ih hz
/-! ### What the machine makes lies in what Do tells -/
theorem hull2_in {u v : Int} : (hullTo [u, v] 2).In u ∧ (hullTo [u, v] 2).In v := ⟨hull_mem [u, v] 2 0 (by omega), hull_mem [u, v] 2 1 (by omega)⟩
theorem bothPoint_eq {a b : Sp} (h : bothPoint a b = true) : a.lo = a.hi ∧ b.lo = b.hi := by simpa [bothPoint, Sp.point] using h
theorem add_true {a b : Sp} {x y : Int} (hx : a.In x) (hy : b.In y) : (addS a b).In (wrap64 (x + y)) := by
  unfold addS
  cases hp : bothPoint a b
  · cases h : (Sp.sumOk a.lo b.lo && Sp.sumOk a.hi b.hi)
    · exact all_in _
    · simp only [Bool.and_eq_true] at h
      have h1 := (sumOk_iff _ _).1 h.1
      have h2 := (sumOk_iff _ _).1 h.2
      have e : wrap64 (x + y) = x + y := IntWalk.wrap64_in _ (by unfold Sp.In at hx hy; omega)
      have := hull2_in (u := a.lo + b.lo) (v := a.hi + b.hi)
      rw [e]
      simp only [Bool.false_eq_true, if_false, if_true]
      unfold Sp.In at *
      omega
  · have := bothPoint_eq hp
    unfold Sp.In at *
    obtain rfl : x = a.lo := by omega
    obtain rfl : y = b.lo := by omega
    simp
theorem sub_true {a b : Sp} {x y : Int} (hx : a.In x) (hy : b.In y) : (subS a b).In (wrap64 (x - y)) := by
  unfold subS
  cases hp : bothPoint a b
  · cases h : (Sp.lessOk a.lo b.hi && Sp.lessOk a.hi b.lo)
    · exact all_in _
    · simp only [Bool.and_eq_true] at h
      have h1 := (lessOk_iff _ _).1 h.1
      have h2 := (lessOk_iff _ _).1 h.2
      have e : wrap64 (x - y) = x - y := IntWalk.wrap64_in _ (by unfold Sp.In at hx hy; omega)
      have := hull2_in (u := a.lo - b.hi) (v := a.hi - b.lo)
      rw [e]
      simp only [Bool.false_eq_true, if_false, if_true]
      unfold Sp.In at *
      omega
  · have := bothPoint_eq hp
    unfold Sp.In at *
    obtain rfl : x = a.lo := by omega
    obtain rfl : y = b.lo := by omega
    simp
theorem all_mulOk {x y : Int} : mulOk x y = true ↔ Sp.all.In (x * y) := by
  rw [mulOk_iff]; simp [Sp.In, Sp.all, Sp.least, Sp.greatest]
theorem mul_true {a b : Sp} {x y : Int} (hx : a.In x) (hy : b.In y) : (mulS a b).In (wrap64 (x * y)) := by
  unfold mulS
  cases hp : bothPoint a b
  · cases h : (mulOk a.lo b.lo && mulOk a.lo b.hi && mulOk a.hi b.lo && mulOk a.hi b.hi)
    · exact all_in _
    · simp only [Bool.and_eq_true] at h
      obtain ⟨⟨⟨h1, h2⟩, h3⟩, h4⟩ := h
      have e : wrap64 (x * y) = x * y := mulOk_wrap (all_mulOk.2 (mul_in hx hy (all_mulOk.1 h1) (all_mulOk.1 h2) (all_mulOk.1 h3) (all_mulOk.1 h4)))
      rw [e]
      simp only [Bool.false_eq_true, if_false, if_true]
      exact mul_in hx hy (hull_mem [a.lo * b.lo, a.lo * b.hi, a.hi * b.lo, a.hi * b.hi] 4 0 (by omega)) (hull_mem [a.lo * b.lo, a.lo * b.hi, a.hi * b.lo, a.hi * b.hi] 4 1 (by omega))
        (hull_mem [a.lo * b.lo, a.lo * b.hi, a.hi * b.lo, a.hi * b.hi] 4 2 (by omega)) (hull_mem [a.lo * b.lo, a.lo * b.hi, a.hi * b.lo, a.hi * b.hi] 4 3 (by omega))
  · have := bothPoint_eq hp
    unfold Sp.In at *
    obtain rfl : x = a.lo := by omega
    obtain rfl : y = b.lo := by omega
    simp
theorem div_true {a b : Sp} {x y : Int} (ha : a.Wf) (hb : b.Wf) (hx : a.In x) (hy : b.In y) (y0 : y ≠ 0) : (divS a b).In (wrap64 (x.tdiv y)) := by
  unfold divS
  split
  · exact all_in _
  · rename_i hno
    have hno' : b.has (-1) = true → a.lo ≠ -9223372036854775808 := fun h e => hno ⟨e, h⟩
    obtain ⟨⟨ha1, ha2⟩, ha3, ha4⟩ := ha
    have hx' := hx
    have hy' := hy
    unfold Sp.In at hx' hy'
    generalize hH : hullTo (quots a b 4) (quots a b 4).length = H
    have got : ∀ z, z ∈ quots a b 4 → H.In z := fun z hz => by
      obtain ⟨i, hi, e⟩ := mem_nth hz
      rw [← hH, ← e]; exact hull_mem _ _ i hi
    -- a divisor that lies in b and is not 0
    have safe : ∀ (d z : Int), d ≠ 0 → b.In d → a.lo ≤ z → z ≤ a.hi → wrap64 (z.tdiv d) = z.tdiv d := fun d z d0 hd z1 z2 => by
      refine IntWalk.wrap64_in _ ?_
      by_cases d1 : d = -1
      · have hbd : b.has (-1) = true := by subst d1; unfold Sp.In at hd; simp [Sp.has]; omega
        have := hno' hbd
        subst d1
        rw [Int.tdiv_neg, Int.tdiv_one]
        omega
      · exact tdiv_in ⟨by omega, by omega⟩ d0 d1
    have ends : ∀ k, k < 4 → cand b k ≠ 0 → b.In (cand b k) → H.In (x.tdiv (cand b k)) := fun k hk d0 hd => by
      have hc : candOk b k = true := by
        have h1 : b.has (cand b k) = true := by unfold Sp.In at hd; simp [Sp.has]; exact hd
        simp [candOk, h1, d0]
      obtain ⟨m1, m2⟩ := quots_mem (a := a) hc 4 hk
      have g1 := got _ m1
      have g2 := got _ m2
      rw [safe _ _ d0 hd (Int.le_refl _) (by omega)] at g1
      rw [safe _ _ d0 hd (by omega) (Int.le_refl _)] at g2
      exact in_btw g1 g2 (tdiv_btw_x d0 hx.1 hx.2)
    rw [safe y x y0 hy hx.1 hx.2]
    rcases Int.lt_or_gt_of_ne y0 with hn | hn
    · have e1 := ends 0 (by omega) (show b.lo ≠ 0 by omega) (show b.In b.lo by unfold Sp.In; omega)
      by_cases hh : b.hi < 0
      · have e2 := ends 1 (by omega) (show b.hi ≠ 0 by omega) (show b.In b.hi by unfold Sp.In; omega)
        exact in_btw e1 e2 (tdiv_btw_d (.inr hh) hy.1 hy.2)
      · have e2 := ends 2 (by omega) (show (-1 : Int) ≠ 0 by omega) (show b.In (-1) by unfold Sp.In; omega)
        exact in_btw e1 e2 (tdiv_btw_d (l := b.lo) (h := -1) (.inr (by omega)) hy.1 (by omega))
    · have e2 := ends 1 (by omega) (show b.hi ≠ 0 by omega) (show b.In b.hi by unfold Sp.In; omega)
      by_cases hh : 0 < b.lo
      · have e1 := ends 0 (by omega) (show b.lo ≠ 0 by omega) (show b.In b.lo by unfold Sp.In; omega)
        exact in_btw e1 e2 (tdiv_btw_d (.inl hh) hy.1 hy.2)
      · have e1 := ends 3 (by omega) (show (1 : Int) ≠ 0 by omega) (show b.In 1 by unfold Sp.In; omega)
        exact in_btw e1 e2 (tdiv_btw_d (l := 1) (h := b.hi) (.inl (by omega)) (by omega) hy.2)
theorem tmod_facts (x : Int) {y : Int} (y0 : y ≠ 0) : (x.tmod y).natAbs < y.natAbs ∧ (x.tmod y).natAbs ≤ x.natAbs ∧ (0 ≤ x → 0 ≤ x.tmod y) ∧ (x ≤ 0 → x.tmod y ≤ 0) := by
  have e := Int.natAbs_tmod x y
  refine ⟨?_, ?_, fun h => Int.tmod_nonneg y h, fun h => ?_⟩
  · rw [e]; exact Nat.mod_lt _ (by omega)
  · rw [e]; exact Nat.mod_le _ _
  · obtain ⟨z, rfl⟩ : ∃ z, x = -z := ⟨-x, by omega⟩
    rw [Int.neg_tmod]
    have := Int.tmod_nonneg y (show 0 ≤ z by omega)
    omega
theorem rem_true {a b : Sp} {x y : Int} (hx : a.In x) (hy : b.In y) (y0 : y ≠ 0) : (leftS a b).In (x.tmod y) := by
  obtain ⟨f1, f2, f3, f4⟩ := tmod_facts x y0
  generalize x.tmod y = r at *
  unfold Sp.In at *
  unfold leftS leftM Sp.mx Sp.mn
  dsimp only
  constructor
  · split <;> (try split) <;> (try split) <;> omega
  · split <;> (try split) <;> (try split) <;> omega
theorem lt_true {a b : Sp} {x y : Int} (hx : a.In x) (hy : b.In y) : (ltS a b).In (if x < y then 1 else 0) := by
  unfold Sp.In at *
  unfold ltS Sp.truth
  simp only [decide_eq_true_eq]
  constructor <;> split <;> (try split) <;> (try split) <;> simp <;> omega
theorem eq_true {a b : Sp} {x y : Int} (hx : a.In x) (hy : b.In y) : (eqS a b).In (if x = y then 1 else 0) := by
  have hm : a.meetOk b = false → x ≠ y := fun h e => by
    subst e
    unfold Sp.meetOk Sp.meetS Sp.none Sp.mx Sp.mn at h
    unfold Sp.In at *
    simp only [Bool.not_eq_false', decide_eq_true_eq] at h
    revert h; split <;> split <;> omega
  unfold eqS Sp.truth
  cases h1 : (bothPoint a b && decide (a.lo = b.lo))
  · cases h2 : a.meetOk b
    · have := hm h2
      simp [Sp.In, this]
    · simp only [Bool.false_eq_true, if_false, Bool.not_true]
      unfold Sp.In
      constructor <;> split <;> simp
  · simp only [Bool.and_eq_true, decide_eq_true_eq] at h1
    have := bothPoint_eq h1.1
    unfold Sp.In at *
    have : x = y := by omega
    simp [this]
theorem not_true {a : Sp} {x : Int} (hx : a.In x) : (notS a).In (if x = 0 then 1 else 0) := by
  unfold Sp.In at *
  unfold notS Sp.truth Sp.zero Sp.has
  simp only [Bool.and_eq_true, decide_eq_true_eq, Bool.not_eq_true', Bool.and_eq_false_iff, decide_eq_false_iff_not]
  constructor <;> split <;> (try split) <;> (try split) <;> simp <;> omega
/-- THE STAGE'S THEOREM, in plain numbers. -/
theorem do_true {op : Int} {a b : Sp} {x y : Int} (ha : a.Wf) (hb : b.Wf) (hx : a.In x) (hy0 : op ≠ 10 → b.In y) (hk : opOk op y = true) : doOk op a b = true ∧ (doSp op a b).In (opV op x y) := by
  have hna : a.none = false := by unfold Sp.In at hx; simp [Sp.none]; omega
  by_cases o10 : op = 10
  · subst o10
    refine ⟨by simp [doOk, hna], ?_⟩
    simpa [doSp, doOk, hna, opV] using not_true hx
  have hy := hy0 o10
  clear hy0
  have hnb : b.none = false := by unfold Sp.In at hy; simp [Sp.none]; omega
  have hz : y ≠ 0 → b.zero = false := fun h => by
    unfold Sp.In at hy
    simp only [Sp.zero, Bool.and_eq_false_iff, decide_eq_false_iff_not]; omega
  by_cases o3 : op = 3
  · subst o3; refine ⟨by simp [doOk, hna, hnb], ?_⟩; simpa [doSp, doOk, hna, hnb, opV] using add_true hx hy
  by_cases o4 : op = 4
  · subst o4; refine ⟨by simp [doOk, hna, hnb], ?_⟩; simpa [doSp, doOk, hna, hnb, opV] using sub_true hx hy
  by_cases o5 : op = 5
  · subst o5; refine ⟨by simp [doOk, hna, hnb], ?_⟩; simpa [doSp, doOk, hna, hnb, opV] using mul_true hx hy
  by_cases o6 : op = 6
  · subst o6
    have y0 : y ≠ 0 := by simpa [opOk] using hk
    refine ⟨by simp [doOk, hna, hnb, hz y0], ?_⟩; simpa [doSp, doOk, hna, hnb, opV, hz y0, y0] using div_true ha hb hx hy y0
  by_cases o7 : op = 7
  · subst o7
    have y0 : y ≠ 0 := by simpa [opOk] using hk
    refine ⟨by simp [doOk, hna, hnb, hz y0], ?_⟩; simpa [doSp, doOk, hna, hnb, opV, hz y0, y0] using rem_true hx hy y0
  by_cases o8 : op = 8
  · subst o8; refine ⟨by simp [doOk, hna, hnb], ?_⟩; simpa [doSp, doOk, hna, hnb, opV] using lt_true hx hy
  by_cases o9 : op = 9
  · subst o9; refine ⟨by simp [doOk, hna, hnb], ?_⟩; simpa [doSp, doOk, hna, hnb, opV] using eq_true hx hy
  simp [opOk, o3, o4, o5, o6, o7, o8, o9, o10] at hk
/-! ### Of spans that have more, no less -/
/-- Has the second one all that the first one has? -/
theorem within_iff {a b : Sp} : a.within b = true ↔ (a.lo ≤ a.hi → b.lo ≤ a.lo ∧ a.hi ≤ b.hi) := by
  simp only [Sp.within, Sp.none, Bool.or_eq_true, Bool.and_eq_true, decide_eq_true_eq]; omega
theorem add_grows {a b c d : Sp} (na : a.lo ≤ a.hi) (nb : b.lo ≤ b.hi) (hc : c.lo ≤ a.lo ∧ a.hi ≤ c.hi) (hd : d.lo ≤ b.lo ∧ b.hi ≤ d.hi) : (addS c d).lo ≤ (addS a b).lo ∧ (addS a b).hi ≤ (addS c d).hi := by
  have t1 : (addS c d).In (wrap64 (a.lo + b.lo)) := add_true (by unfold Sp.In; omega) (by unfold Sp.In; omega)
  have t2 : (addS c d).In (wrap64 (a.hi + b.hi)) := add_true (by unfold Sp.In; omega) (by unfold Sp.In; omega)
  cases hp : bothPoint a b
  · cases h : (Sp.sumOk a.lo b.lo && Sp.sumOk a.hi b.hi)
    · have h2 : bothPoint c d = false := by
        cases h2 : bothPoint c d
        · rfl
        · have := bothPoint_eq h2
          have : bothPoint a b = true := by simp [bothPoint, Sp.point]; omega
          rw [this] at hp; cases hp
      have h3 : (Sp.sumOk c.lo d.lo && Sp.sumOk c.hi d.hi) = false := by
        cases h3 : (Sp.sumOk c.lo d.lo && Sp.sumOk c.hi d.hi)
        · rfl
        · simp only [Bool.and_eq_true, sumOk_iff] at h3
          have : (Sp.sumOk a.lo b.lo && Sp.sumOk a.hi b.hi) = true := by simp only [Bool.and_eq_true, sumOk_iff]; omega
          rw [this] at h; cases h
      have e : addS a b = addS c d := by unfold addS; rw [hp, h, h2, h3]; rfl
      rw [e]; exact ⟨Int.le_refl _, Int.le_refl _⟩
    · have e : addS a b = hullTo [a.lo + b.lo, a.hi + b.hi] 2 := by unfold addS; rw [hp, h]; rfl
      simp only [Bool.and_eq_true] at h
      rw [sumOk_wrap h.1] at t1
      rw [sumOk_wrap h.2] at t2
      rw [e]
      refine hull_sub t1 2 (fun i hi => ?_)
      obtain rfl | rfl : i = 0 ∨ i = 1 := by omega
      · exact t1
      · exact t2
  · have e : addS a b = ⟨wrap64 (a.lo + b.lo), wrap64 (a.lo + b.lo)⟩ := by unfold addS; rw [hp]; rfl
    rw [e]; exact t1
theorem sub_grows {a b c d : Sp} (na : a.lo ≤ a.hi) (nb : b.lo ≤ b.hi) (hc : c.lo ≤ a.lo ∧ a.hi ≤ c.hi) (hd : d.lo ≤ b.lo ∧ b.hi ≤ d.hi) : (subS c d).lo ≤ (subS a b).lo ∧ (subS a b).hi ≤ (subS c d).hi := by
  have t0 : (subS c d).In (wrap64 (a.lo - b.lo)) := sub_true (by unfold Sp.In; omega) (by unfold Sp.In; omega)
  have t1 : (subS c d).In (wrap64 (a.lo - b.hi)) := sub_true (by unfold Sp.In; omega) (by unfold Sp.In; omega)
  have t2 : (subS c d).In (wrap64 (a.hi - b.lo)) := sub_true (by unfold Sp.In; omega) (by unfold Sp.In; omega)
  cases hp : bothPoint a b
  · cases h : (Sp.lessOk a.lo b.hi && Sp.lessOk a.hi b.lo)
    · have h2 : bothPoint c d = false := by
        cases h2 : bothPoint c d
        · rfl
        · have := bothPoint_eq h2
          have : bothPoint a b = true := by simp [bothPoint, Sp.point]; omega
          rw [this] at hp; cases hp
      have h3 : (Sp.lessOk c.lo d.hi && Sp.lessOk c.hi d.lo) = false := by
        cases h3 : (Sp.lessOk c.lo d.hi && Sp.lessOk c.hi d.lo)
        · rfl
        · simp only [Bool.and_eq_true, lessOk_iff] at h3
          have : (Sp.lessOk a.lo b.hi && Sp.lessOk a.hi b.lo) = true := by simp only [Bool.and_eq_true, lessOk_iff]; omega
          rw [this] at h; cases h
      have e : subS a b = subS c d := by unfold subS; rw [hp, h, h2, h3]; rfl
      rw [e]; exact ⟨Int.le_refl _, Int.le_refl _⟩
    · have e : subS a b = hullTo [a.lo - b.hi, a.hi - b.lo] 2 := by unfold subS; rw [hp, h]; rfl
      simp only [Bool.and_eq_true] at h
      rw [lessOk_wrap h.1] at t1
      rw [lessOk_wrap h.2] at t2
      rw [e]
      refine hull_sub t1 2 (fun i hi => ?_)
      obtain rfl | rfl : i = 0 ∨ i = 1 := by omega
      · exact t1
      · exact t2
  · have e : subS a b = ⟨wrap64 (a.lo - b.lo), wrap64 (a.lo - b.lo)⟩ := by unfold subS; rw [hp]; rfl
    rw [e]; exact t0
theorem mul_grows {a b c d : Sp} (na : a.lo ≤ a.hi) (nb : b.lo ≤ b.hi) (hc : c.lo ≤ a.lo ∧ a.hi ≤ c.hi) (hd : d.lo ≤ b.lo ∧ b.hi ≤ d.hi) : (mulS c d).lo ≤ (mulS a b).lo ∧ (mulS a b).hi ≤ (mulS c d).hi := by
  have i1 : c.In a.lo := by unfold Sp.In; omega
  have i2 : c.In a.hi := by unfold Sp.In; omega
  have i3 : d.In b.lo := by unfold Sp.In; omega
  have i4 : d.In b.hi := by unfold Sp.In; omega
  have t1 := mul_true i1 i3
  have t2 := mul_true i1 i4
  have t3 := mul_true i2 i3
  have t4 := mul_true i2 i4
  cases hp : bothPoint a b
  · cases h : (mulOk a.lo b.lo && mulOk a.lo b.hi && mulOk a.hi b.lo && mulOk a.hi b.hi)
    · have h2 : bothPoint c d = false := by
        cases h2 : bothPoint c d
        · rfl
        · have := bothPoint_eq h2
          have : bothPoint a b = true := by simp [bothPoint, Sp.point]; omega
          rw [this] at hp; cases hp
      have h3 : (mulOk c.lo d.lo && mulOk c.lo d.hi && mulOk c.hi d.lo && mulOk c.hi d.hi) = false := by
        cases h3 : (mulOk c.lo d.lo && mulOk c.lo d.hi && mulOk c.hi d.lo && mulOk c.hi d.hi)
        · rfl
        · simp only [Bool.and_eq_true, all_mulOk] at h3
          obtain ⟨⟨⟨h1, h2⟩, h3⟩, h4⟩ := h3
          have : (mulOk a.lo b.lo && mulOk a.lo b.hi && mulOk a.hi b.lo && mulOk a.hi b.hi) = true := by
            simp only [Bool.and_eq_true, all_mulOk]
            exact ⟨⟨⟨mul_in i1 i3 h1 h2 h3 h4, mul_in i1 i4 h1 h2 h3 h4⟩, mul_in i2 i3 h1 h2 h3 h4⟩, mul_in i2 i4 h1 h2 h3 h4⟩
          rw [this] at h; cases h
      have e : mulS a b = mulS c d := by unfold mulS; rw [hp, h, h2, h3]; rfl
      rw [e]; exact ⟨Int.le_refl _, Int.le_refl _⟩
    · have e : mulS a b = hullTo [a.lo * b.lo, a.lo * b.hi, a.hi * b.lo, a.hi * b.hi] 4 := by unfold mulS; rw [hp, h]; rfl
      simp only [Bool.and_eq_true] at h
      obtain ⟨⟨⟨h1, h2⟩, h3⟩, h4⟩ := h
      rw [mulOk_wrap h1] at t1
      rw [mulOk_wrap h2] at t2
      rw [mulOk_wrap h3] at t3
      rw [mulOk_wrap h4] at t4
      rw [e]
      refine hull_sub t1 4 (fun i hi => ?_)
      obtain rfl | rfl | rfl | rfl : i = 0 ∨ i = 1 ∨ i = 2 ∨ i = 3 := by omega
      · exact t1
      · exact t2
      · exact t3
      · exact t4
  · have e : mulS a b = ⟨wrap64 (a.lo * b.lo), wrap64 (a.lo * b.lo)⟩ := by unfold mulS; rw [hp]; rfl
    rw [e]; exact t1
theorem div_grows {a b c d : Sp} (wc : c.Wf) (wd : d.Wf) (na : a.lo ≤ a.hi) (nb : b.lo ≤ b.hi) (nz : b.lo ≠ 0 ∨ b.hi ≠ 0) (hc : c.lo ≤ a.lo ∧ a.hi ≤ c.hi) (hd : d.lo ≤ b.lo ∧ b.hi ≤ d.hi) :
    (divS c d).lo ≤ (divS a b).lo ∧ (divS a b).hi ≤ (divS c d).hi := by
  by_cases hn : a.lo = Sp.least ∧ b.has (-1) = true
  · have hn2 : c.lo = Sp.least ∧ d.has (-1) = true := by
      obtain ⟨h1, h2⟩ := hn
      obtain ⟨⟨w1, _⟩, _⟩ := wc
      simp only [Sp.has, Bool.and_eq_true, decide_eq_true_eq] at h2 ⊢
      simp only [Sp.least] at h1 ⊢
      omega
    have e : divS a b = divS c d := by unfold divS; rw [if_pos hn, if_pos hn2]
    rw [e]; exact ⟨Int.le_refl _, Int.le_refl _⟩
  · have e : divS a b = hullTo (quots a b 4) (quots a b 4).length := by unfold divS; rw [if_neg hn]
    have hq : ∀ z, z ∈ quots a b 4 → (divS c d).In z := quots_all (fun k hk hco => by
      have hco' : cand b k ≠ 0 ∧ b.has (cand b k) = true := by simpa [candOk] using hco
      obtain ⟨k0, kb⟩ := hco'
      simp only [Sp.has, Bool.and_eq_true, decide_eq_true_eq] at kb
      have kd : d.In (cand b k) := by unfold Sp.In; omega
      exact ⟨div_true wc wd (by unfold Sp.In; omega) kd k0, div_true wc wd (by unfold Sp.In; omega) kd k0⟩) 4 (Nat.le_refl _)
    have hl : 0 < (quots a b 4).length := quots_some nb nz
    rw [e]
    exact hull_sub (hq _ (nth_mem hl)) _ (fun i hi => hq _ (nth_mem hi))
theorem rem_grows {a b c d : Sp} (na : a.lo ≤ a.hi) (nb : b.lo ≤ b.hi) (nz : b.lo ≠ 0 ∨ b.hi ≠ 0) (hc : c.lo ≤ a.lo ∧ a.hi ≤ c.hi) (hd : d.lo ≤ b.lo ∧ b.hi ≤ d.hi) :
    (leftS c d).lo ≤ (leftS a b).lo ∧ (leftS a b).hi ≤ (leftS c d).hi := by
  have hm : leftM b ≤ leftM d ∧ 0 ≤ leftM b := by
    unfold leftM
    split <;> split <;> omega
  unfold leftS Sp.mx Sp.mn
  generalize leftM b = m at *
  generalize leftM d = n at *
  dsimp only
  constructor
  · split <;> (try split) <;> (try split) <;> (try split) <;> omega
  · split <;> (try split) <;> (try split) <;> (try split) <;> omega
theorem truth_in (p q : Bool) : (Sp.truth p q).In (if p = true then 1 else if q = true then 0 else 0) ∧ (Sp.truth p q).lo ≤ (Sp.truth p q).hi ∧ (⟨0, 1⟩ : Sp).lo ≤ (Sp.truth p q).lo ∧ (Sp.truth p q).hi ≤ (⟨0, 1⟩ : Sp).hi := by
  cases p <;> cases q <;> simp [Sp.truth, Sp.In]
/-- Where less is sure, less is told. -/
theorem truth_grows {p q r s : Bool} (h1 : r = true → p = true) (h2 : r = false → s = true → p = false ∧ q = true) : (Sp.truth r s).lo ≤ (Sp.truth p q).lo ∧ (Sp.truth p q).hi ≤ (Sp.truth r s).hi := by
  cases r
  · cases s
    · cases p <;> cases q <;> simp [Sp.truth]
    · obtain ⟨rfl, rfl⟩ := h2 rfl rfl
      simp [Sp.truth]
  · obtain rfl := h1 rfl
    simp [Sp.truth]
theorem lt_grows {a b c d : Sp} (na : a.lo ≤ a.hi) (nb : b.lo ≤ b.hi) (hc : c.lo ≤ a.lo ∧ a.hi ≤ c.hi) (hd : d.lo ≤ b.lo ∧ b.hi ≤ d.hi) : (ltS c d).lo ≤ (ltS a b).lo ∧ (ltS a b).hi ≤ (ltS c d).hi := by
  unfold ltS
  refine truth_grows (fun h => ?_) (fun _ h => ?_)
  · simp only [decide_eq_true_eq] at *; omega
  · simp only [decide_eq_true_eq, decide_eq_false_iff_not] at *; omega
theorem meet_no {a b : Sp} : a.meetOk b = false ↔ (if a.hi < b.hi then a.hi else b.hi) < (if b.lo < a.lo then a.lo else b.lo) := by
  unfold Sp.meetOk Sp.meetS Sp.none Sp.mx Sp.mn
  simp only [Bool.not_eq_false', decide_eq_true_eq]
theorem eq_grows {a b c d : Sp} (na : a.lo ≤ a.hi) (nb : b.lo ≤ b.hi) (hc : c.lo ≤ a.lo ∧ a.hi ≤ c.hi) (hd : d.lo ≤ b.lo ∧ b.hi ≤ d.hi) : (eqS c d).lo ≤ (eqS a b).lo ∧ (eqS a b).hi ≤ (eqS c d).hi := by
  unfold eqS
  refine truth_grows (fun h => ?_) (fun _ h => ?_)
  · simp only [Bool.and_eq_true, decide_eq_true_eq] at h
    have := bothPoint_eq h.1
    simp [bothPoint, Sp.point]; omega
  · have h : c.meetOk d = false := by simpa using h
    have h2 : a.meetOk b = false := by
      rw [meet_no] at h ⊢
      revert h; split <;> split <;> split <;> split <;> omega
    refine ⟨?_, by rw [h2]; rfl⟩
    cases h3 : (bothPoint a b && decide (a.lo = b.lo))
    · rfl
    · exfalso
      simp only [Bool.and_eq_true, decide_eq_true_eq] at h3
      have := bothPoint_eq h3.1
      rw [meet_no] at h2
      revert h2; split <;> split <;> omega
theorem not_grows {a c : Sp} (na : a.lo ≤ a.hi) (hc : c.lo ≤ a.lo ∧ a.hi ≤ c.hi) : (notS c).lo ≤ (notS a).lo ∧ (notS a).hi ≤ (notS c).hi := by
  unfold notS Sp.zero Sp.has
  refine truth_grows (fun h => ?_) (fun _ h => ?_)
  · simp only [Bool.and_eq_true, decide_eq_true_eq] at *; omega
  · simp only [Bool.and_eq_true, decide_eq_true_eq, Bool.not_eq_true', Bool.and_eq_false_iff, decide_eq_false_iff_not] at *; omega
theorem do_grows {op : Int} {a b c d : Sp} (wc : c.Wf) (wd : d.Wf) (hc : a.within c = true) (hd : b.within d = true) (h : doOk op a b = true) : doOk op c d = true ∧ (doSp op a b).within (doSp op c d) = true := by
  have na : a.none = false := by cases e : a.none <;> simp [doOk, e] at h ⊢
  have na' : a.lo ≤ a.hi := by simpa [Sp.none] using na
  have hc' := within_iff.1 hc na'
  have nc : c.none = false := by simp [Sp.none]; omega
  by_cases o10 : op = 10
  · subst o10
    refine ⟨by simp [doOk, nc], within_iff.2 fun _ => ?_⟩
    simpa [doSp, doOk, na, nc] using not_grows na' hc'
  have nb : b.none = false := by cases e : b.none <;> simp [doOk, e, o10, na] at h ⊢
  have nb' : b.lo ≤ b.hi := by simpa [Sp.none] using nb
  have hd' := within_iff.1 hd nb'
  have nd : d.none = false := by simp [Sp.none]; omega
  have hz : b.zero = false → d.zero = false ∧ (b.lo ≠ 0 ∨ b.hi ≠ 0) := fun h => by
    simp only [Sp.zero, Bool.and_eq_false_iff, decide_eq_false_iff_not] at *; omega
  by_cases o3 : op = 3
  · subst o3
    refine ⟨by simp [doOk, nc, nd], within_iff.2 fun _ => ?_⟩
    simpa [doSp, doOk, na, nc, nb, nd] using add_grows na' nb' hc' hd'
  by_cases o4 : op = 4
  · subst o4
    refine ⟨by simp [doOk, nc, nd], within_iff.2 fun _ => ?_⟩
    simpa [doSp, doOk, na, nc, nb, nd] using sub_grows na' nb' hc' hd'
  by_cases o5 : op = 5
  · subst o5
    refine ⟨by simp [doOk, nc, nd], within_iff.2 fun _ => ?_⟩
    simpa [doSp, doOk, na, nc, nb, nd] using mul_grows na' nb' hc' hd'
  by_cases o6 : op = 6
  · subst o6
    have zb : b.zero = false := by simpa [doOk, na, nb] using h
    obtain ⟨zd, nz⟩ := hz zb
    refine ⟨by simp [doOk, nc, nd, zd], within_iff.2 fun _ => ?_⟩
    simpa [doSp, doOk, na, nc, nb, nd, zb, zd] using div_grows wc wd na' nb' nz hc' hd'
  by_cases o7 : op = 7
  · subst o7
    have zb : b.zero = false := by simpa [doOk, na, nb] using h
    obtain ⟨zd, nz⟩ := hz zb
    refine ⟨by simp [doOk, nc, nd, zd], within_iff.2 fun _ => ?_⟩
    simpa [doSp, doOk, na, nc, nb, nd, zb, zd] using rem_grows na' nb' nz hc' hd'
  by_cases o8 : op = 8
  · subst o8
    refine ⟨by simp [doOk, nc, nd], within_iff.2 fun _ => ?_⟩
    simpa [doSp, doOk, na, nc, nb, nd] using lt_grows na' nb' hc' hd'
  by_cases o9 : op = 9
  · subst o9
    refine ⟨by simp [doOk, nc, nd], within_iff.2 fun _ => ?_⟩
    simpa [doSp, doOk, na, nc, nb, nd] using eq_grows na' nb' hc' hd'
  simp [doOk, o3, o4, o5, o6, o7, o8, o9, o10] at h
theorem meet_grows {a b c d : Sp} (hc : a.within c = true) (hd : b.within d = true) (h : a.meetOk b = true) : c.meetOk d = true ∧ (a.meet b).within (c.meet d) = true := by
  have hn : ¬ a.meetOk b = false := by rw [h]; decide
  rw [meet_no] at hn
  have na : a.lo ≤ a.hi := by revert hn; split <;> split <;> omega
  have nb : b.lo ≤ b.hi := by revert hn; split <;> split <;> omega
  have hc' := within_iff.1 hc na
  have hd' := within_iff.1 hd nb
  have k : c.meetOk d = true := by
    cases e : c.meetOk d
    · exfalso
      rw [meet_no] at e
      revert e hn; split <;> split <;> split <;> split <;> omega
    · rfl
  refine ⟨k, within_iff.2 fun _ => ?_⟩
  have m : ∀ {s t : Sp}, s.meetOk t = true → s.meet t = ⟨Sp.mx s.lo t.lo, Sp.mn s.hi t.hi⟩ := fun {s t} e => by
    have : (s.meetS t).none = false := by simpa [Sp.meetOk] using e
    unfold Sp.meet
    rw [this]
    rfl
  rw [m h, m k]
  simp only [Sp.mx, Sp.mn]
  constructor <;> split <;> split <;> omega
theorem join_within1 (a b : Sp) : a.within (a.join b) = true := within_iff.2 fun h => by
  have na : a.none = false := by simp [Sp.none]; omega
  unfold Sp.join
  rw [na]
  simp only [Bool.false_eq_true, if_false]
  split
  · exact ⟨Int.le_refl _, Int.le_refl _⟩
  · simp only [Sp.mn, Sp.mx]; constructor <;> split <;> omega
theorem join_within2 (a b : Sp) : b.within (a.join b) = true := within_iff.2 fun h => by
  have nb : b.none = false := by simp [Sp.none]; omega
  unfold Sp.join
  rw [nb]
  split
  · exact ⟨Int.le_refl _, Int.le_refl _⟩
  · simp only [Bool.false_eq_true, if_false, Sp.mn, Sp.mx]; constructor <;> split <;> omega
theorem join_grows {a b c d : Sp} (hc : a.within c = true) (hd : b.within d = true) : (a.join b).within (c.join d) = true := within_iff.2 fun h => by
  rw [within_iff] at hc hd
  revert h
  unfold Sp.join Sp.none
  simp only [decide_eq_true_eq]
  split <;> split <;> (try split) <;> (try split) <;> (try simp only [Sp.mn, Sp.mx]) <;> intro h <;> constructor <;> (repeat' split) <;> omega
theorem join_Wf {a b : Sp} (ha : a.Wf) (hb : b.Wf) : (a.join b).Wf := by
  unfold Sp.join
  obtain ⟨⟨_, _⟩, _, _⟩ := ha
  obtain ⟨⟨_, _⟩, _, _⟩ := hb
  split
  · exact ⟨⟨by assumption, by assumption⟩, by assumption, by assumption⟩
  · split
    · exact ⟨⟨by assumption, by assumption⟩, by assumption, by assumption⟩
    · simp only [Sp.Wf, Sp.mn, Sp.mx]; (repeat' split) <;> omega
end Go.Proofs.Ytdoikgjdjdgnbaa
