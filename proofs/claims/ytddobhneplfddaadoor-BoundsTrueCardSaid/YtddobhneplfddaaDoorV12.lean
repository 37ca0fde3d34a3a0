/-
  Layer 16 (bounds): PlainGE, MeetC, BndC.
-/
import Derived.Test.YtddobhneplfddaaDoorV6
namespace Go.Proofs.YtddobhneplfddaaDoor
set_option maxRecDepth 100000
open Go.RowKit
set_option linter.unusedSimpArgs false
set_option linter.unusedVariables false

/-- Does a number lie in a span? -/
def Sp.In (s : Sp) (v : Int) : Prop := s.lo ≤ v ∧ v ≤ s.hi
/-- Between two numbers, whichever is the greater one. -/
def Btw (u v w : Int) : Prop := (u ≤ w ∧ w ≤ v) ∨ (v ≤ w ∧ w ≤ u)
theorem in_btw {s : Sp} {u v w : Int} (h1 : s.In u) (h2 : s.In v) (h : Btw u v w) : s.In w := by
  unfold Sp.In Btw at *; omega
theorem all_in (n : Int) : Sp.all.In (wrap64 n) := by
  have := wrap64_In n
  unfold In64 at this
  simpa [Sp.In, Sp.all, Sp.least, Sp.greatest] using this
theorem hull_mem (zs : List Int) : ∀ k i, i < k → (hullTo zs k).In (nthI zs i)
  | 0, i, h => absurd h (by omega)
  | k + 1, i, h => by
    have hn := hullTo_next zs k
    rcases Nat.lt_or_ge i k with h1 | h1
    · have := hull_mem zs k i h1
      rw [hn]
      unfold Sp.In at *
      simp only [Sp.mn, Sp.mx]
      constructor <;> split <;> omega
    · obtain rfl : i = k := by omega
      rw [hn]
      unfold Sp.In
      simp only [Sp.mn, Sp.mx]
      constructor <;> split <;> omega
theorem hull_sub {zs : List Int} {t : Sp} (h0 : t.In (nthI zs 0)) : ∀ k, (∀ i, i < k → t.In (nthI zs i)) → t.lo ≤ (hullTo zs k).lo ∧ (hullTo zs k).hi ≤ t.hi
  | 0, _ => h0
  | k + 1, h => by
    have ih := hull_sub h0 k (fun i hi => h i (by omega))
    have hk := h k (by omega)
    rw [hullTo_next]
    unfold Sp.In at hk
    simp only [Sp.mn, Sp.mx]
    constructor <;> split <;> omega
theorem mem_nth {zs : List Int} {z : Int} (h : z ∈ zs) : ∃ i, i < zs.length ∧ nthI zs i = z := by
  obtain ⟨i, hi, e⟩ := List.getElem_of_mem h
  exact ⟨i, hi, by simp [nthI, hi, e]⟩
theorem nth_mem {zs : List Int} {i : Nat} (h : i < zs.length) : nthI zs i ∈ zs := by
  simp [nthI, h]
theorem mul_btw {l h x : Int} (y : Int) (h1 : l ≤ x) (h2 : x ≤ h) : Btw (l * y) (h * y) (x * y) := by
  rcases Int.le_total 0 y with hy | hy
  · exact .inl ⟨Int.mul_le_mul_of_nonneg_right h1 hy, Int.mul_le_mul_of_nonneg_right h2 hy⟩
  · exact .inr ⟨Int.mul_le_mul_of_nonpos_right h2 hy, Int.mul_le_mul_of_nonpos_right h1 hy⟩
/-- A product lies where the four products of the ends lie. -/
theorem mul_in {s a b : Sp} {x y : Int} (hx : a.In x) (hy : b.In y) (h1 : s.In (a.lo * b.lo)) (h2 : s.In (a.lo * b.hi)) (h3 : s.In (a.hi * b.lo)) (h4 : s.In (a.hi * b.hi)) : s.In (x * y) := by
  have e : ∀ z, Btw (z * b.lo) (z * b.hi) (z * y) := fun z => by
    have := mul_btw z hy.1 hy.2
    rwa [Int.mul_comm b.lo, Int.mul_comm b.hi, Int.mul_comm y] at this
  exact in_btw (in_btw h1 h2 (e a.lo)) (in_btw h3 h4 (e a.hi)) (mul_btw y hx.1 hx.2)
theorem tdiv_btw_x {l h x d : Int} (hd : d ≠ 0) (h1 : l ≤ x) (h2 : x ≤ h) : Btw (l.tdiv d) (h.tdiv d) (x.tdiv d) := by
  rcases Int.lt_or_gt_of_ne hd with hd | hd
  · obtain ⟨e, rfl⟩ : ∃ e, d = -e := ⟨-d, by omega⟩
    rw [Int.tdiv_neg, Int.tdiv_neg, Int.tdiv_neg]
    have a1 := Int.tdiv_le_tdiv (c := e) (by omega) h1
    have a2 := Int.tdiv_le_tdiv (c := e) (by omega) h2
    exact .inr ⟨by omega, by omega⟩
  · exact .inl ⟨Int.tdiv_le_tdiv hd h1, Int.tdiv_le_tdiv hd h2⟩
theorem tdiv_pos_mono {x l y : Int} (hx : 0 ≤ x) (hl : 0 < l) (h : l ≤ y) : x.tdiv y ≤ x.tdiv l := by
  have e1 : (x.tdiv y).natAbs = x.natAbs / y.natAbs := Int.natAbs_tdiv x y
  have e2 : (x.tdiv l).natAbs = x.natAbs / l.natAbs := Int.natAbs_tdiv x l
  have h3 : x.natAbs / y.natAbs ≤ x.natAbs / l.natAbs := Nat.div_le_div_left (by omega) (by omega)
  have p1 := Int.tdiv_nonneg hx (show 0 ≤ y by omega)
  have p2 := Int.tdiv_nonneg hx (show 0 ≤ l by omega)
  omega
/-- By divisors of one sign: between the quotients by the outer ones. -/
theorem tdiv_btw_d {x l h y : Int} (hs : 0 < l ∨ h < 0) (h1 : l ≤ y) (h2 : y ≤ h) : Btw (x.tdiv l) (x.tdiv h) (x.tdiv y) := by
  have pos : ∀ {l h y : Int}, 0 < l → l ≤ y → y ≤ h → Btw (x.tdiv l) (x.tdiv h) (x.tdiv y) := fun {l h y} hl h1 h2 => by
    rcases Int.le_total 0 x with hx | hx
    · exact .inr ⟨tdiv_pos_mono hx (by omega) h2, tdiv_pos_mono hx hl h1⟩
    · obtain ⟨z, rfl⟩ : ∃ z, x = -z := ⟨-x, by omega⟩
      rw [Int.neg_tdiv, Int.neg_tdiv, Int.neg_tdiv]
      have a1 := tdiv_pos_mono (x := z) (by omega) hl h1
      have a2 := tdiv_pos_mono (x := z) (l := y) (by omega) (by omega) h2
      exact .inl ⟨by omega, by omega⟩
  rcases hs with hs | hs
  · exact pos hs h1 h2
  · obtain ⟨l', rfl⟩ : ∃ e, l = -e := ⟨-l, by omega⟩
    obtain ⟨h', rfl⟩ : ∃ e, h = -e := ⟨-h, by omega⟩
    obtain ⟨y', rfl⟩ : ∃ e, y = -e := ⟨-y, by omega⟩
    rw [Int.tdiv_neg, Int.tdiv_neg, Int.tdiv_neg]
    have := pos (l := h') (h := l') (y := y') (by omega) (by omega) (by omega)
    unfold Btw at *
    omega
theorem quots_mem {a b : Sp} {k : Nat} (h : candOk b k = true) : ∀ n, k < n → wrap64 (a.lo.tdiv (cand b k)) ∈ quots a b n ∧ wrap64 (a.hi.tdiv (cand b k)) ∈ quots a b n
  | 0, hn => absurd hn (by omega)
  | n + 1, hn => by
    rcases Nat.lt_or_ge k n with h1 | h1
    · have := quots_mem (a := a) h n h1
      simp only [quots]; split <;> simp [this]
    · obtain rfl : k = n := by omega
      rw [quots_yes h]; simp
theorem quots_all {a b t : Sp} (h : ∀ k, k < 4 → candOk b k = true → t.In (wrap64 (a.lo.tdiv (cand b k))) ∧ t.In (wrap64 (a.hi.tdiv (cand b k)))) : ∀ n, n ≤ 4 → ∀ z, z ∈ quots a b n → t.In z
  | 0, _, z, hz => by simp [quots] at hz
  | n + 1, hn, z, hz => by
    have ih := quots_all h n (by omega) z
    simp only [quots] at hz
    split at hz
    · rename_i hc
      have := h n (by omega) hc
      simp only [List.mem_append, List.mem_cons, List.not_mem_nil, or_false] at hz
      rcases hz with hz | rfl | rfl
      · exact ih hz
      · exact this.1
      · exact this.2
    · exact ih hz
/-! ### What the machine makes lies in what Do tells -/
theorem hull2_in {u v : Int} : (hullTo [u, v] 2).In u ∧ (hullTo [u, v] 2).In v := ⟨hull_mem [u, v] 2 0 (by omega), hull_mem [u, v] 2 1 (by omega)⟩
theorem bothPoint_eq {a b : Sp} (h : bothPoint a b = true) : a.lo = a.hi ∧ b.lo = b.hi := by simpa [bothPoint, Sp.point] using h
theorem add_true {a b : Sp} {x y : Int} (hx : a.In x) (hy : b.In y) : (addS a b).In (wrap64 (x + y)) := by
  unfold addS
  cases hp : bothPoint a b
  · cases h : (Sp.sumOk a.lo b.lo && Sp.sumOk a.hi b.hi)
    · exact all_in _
    · simp only [Bool.and_eq_true] at h
      have h1 := (sumOk_iff _ _).1 h.1
      have h2 := (sumOk_iff _ _).1 h.2
      have e : wrap64 (x + y) = x + y := IntWalk.wrap64_in _ (by unfold Sp.In at hx hy; omega)
      have := hull2_in (u := a.lo + b.lo) (v := a.hi + b.hi)
      rw [e]
      simp only [Bool.false_eq_true, if_false, if_true]
      unfold Sp.In at *
      omega
  · have := bothPoint_eq hp
    unfold Sp.In at *
    obtain rfl : x = a.lo := by omega
    obtain rfl : y = b.lo := by omega
    simp
theorem sub_true {a b : Sp} {x y : Int} (hx : a.In x) (hy : b.In y) : (subS a b).In (wrap64 (x - y)) := by
  unfold subS
  cases hp : bothPoint a b
  · cases h : (Sp.lessOk a.lo b.hi && Sp.lessOk a.hi b.lo)
    · exact all_in _
    · simp only [Bool.and_eq_true] at h
      have h1 := (lessOk_iff _ _).1 h.1
      have h2 := (lessOk_iff _ _).1 h.2
      have e : wrap64 (x - y) = x - y := IntWalk.wrap64_in _ (by unfold Sp.In at hx hy; omega)
      have := hull2_in (u := a.lo - b.hi) (v := a.hi - b.lo)
      rw [e]
      simp only [Bool.false_eq_true, if_false, if_true]
      unfold Sp.In at *
      omega
  · have := bothPoint_eq hp
    unfold Sp.In at *
    obtain rfl : x = a.lo := by omega
    obtain rfl : y = b.lo := by omega
    simp
theorem all_mulOk {x y : Int} : mulOk x y = true ↔ Sp.all.In (x * y) := by
  rw [mulOk_iff]; simp [Sp.In, Sp.all, Sp.least, Sp.greatest]
theorem mul_true {a b : Sp} {x y : Int} (hx : a.In x) (hy : b.In y) : (mulS a b).In (wrap64 (x * y)) := by
  unfold mulS
  cases hp : bothPoint a b
  · cases h : (mulOk a.lo b.lo && mulOk a.lo b.hi && mulOk a.hi b.lo && mulOk a.hi b.hi)
    · exact all_in _
    · simp only [Bool.and_eq_true] at h
      obtain ⟨⟨⟨h1, h2⟩, h3⟩, h4⟩ := h
      have e : wrap64 (x * y) = x * y := mulOk_wrap (all_mulOk.2 (mul_in hx hy (all_mulOk.1 h1) (all_mulOk.1 h2) (all_mulOk.1 h3) (all_mulOk.1 h4)))
      rw [e]
      simp only [Bool.false_eq_true, if_false, if_true]
      exact mul_in hx hy (hull_mem [a.lo * b.lo, a.lo * b.hi, a.hi * b.lo, a.hi * b.hi] 4 0 (by omega)) (hull_mem [a.lo * b.lo, a.lo * b.hi, a.hi * b.lo, a.hi * b.hi] 4 1 (by omega))
        (hull_mem [a.lo * b.lo, a.lo * b.hi, a.hi * b.lo, a.hi * b.hi] 4 2 (by omega)) (hull_mem [a.lo * b.lo, a.lo * b.hi, a.hi * b.lo, a.hi * b.hi] 4 3 (by omega))
  · have := bothPoint_eq hp
    unfold Sp.In at *
    obtain rfl : x = a.lo := by omega
    obtain rfl : y = b.lo := by omega
    simp
theorem div_true {a b : Sp} {x y : Int} (ha : a.Wf) (hb : b.Wf) (hx : a.In x) (hy : b.In y) (y0 : y ≠ 0) : (divS a b).In (wrap64 (x.tdiv y)) := by
  unfold divS
  split
  · exact all_in _
  · rename_i hno
    have hno' : b.has (-1) = true → a.lo ≠ -9223372036854775808 := fun h e => hno ⟨e, h⟩
    obtain ⟨⟨ha1, ha2⟩, ha3, ha4⟩ := ha
    have hx' := hx
    have hy' := hy
    unfold Sp.In at hx' hy'
    generalize hH : hullTo (quots a b 4) (quots a b 4).length = H
    have got : ∀ z, z ∈ quots a b 4 → H.In z := fun z hz => by
      obtain ⟨i, hi, e⟩ := mem_nth hz
      rw [← hH, ← e]; exact hull_mem _ _ i hi
    -- a divisor that lies in b and is not 0
    have safe : ∀ (d z : Int), d ≠ 0 → b.In d → a.lo ≤ z → z ≤ a.hi → wrap64 (z.tdiv d) = z.tdiv d := fun d z d0 hd z1 z2 => by
      refine IntWalk.wrap64_in _ ?_
      by_cases d1 : d = -1
      · have hbd : b.has (-1) = true := by subst d1; unfold Sp.In at hd; simp [Sp.has]; omega
        have := hno' hbd
        subst d1
        rw [Int.tdiv_neg, Int.tdiv_one]
        omega
      · exact tdiv_in ⟨by omega, by omega⟩ d0 d1
    have ends : ∀ k, k < 4 → cand b k ≠ 0 → b.In (cand b k) → H.In (x.tdiv (cand b k)) := fun k hk d0 hd => by
      have hc : candOk b k = true := by
        have h1 : b.has (cand b k) = true := by unfold Sp.In at hd; simp [Sp.has]; exact hd
        simp [candOk, h1, d0]
      obtain ⟨m1, m2⟩ := quots_mem (a := a) hc 4 hk
      have g1 := got _ m1
      have g2 := got _ m2
      rw [safe _ _ d0 hd (Int.le_refl _) (by omega)] at g1
      rw [safe _ _ d0 hd (by omega) (Int.le_refl _)] at g2
      exact in_btw g1 g2 (tdiv_btw_x d0 hx.1 hx.2)
    rw [safe y x y0 hy hx.1 hx.2]
    rcases Int.lt_or_gt_of_ne y0 with hn | hn
    · have e1 := ends 0 (by omega) (show b.lo ≠ 0 by omega) (show b.In b.lo by unfold Sp.In; omega)
      by_cases hh : b.hi < 0
      · have e2 := ends 1 (by omega) (show b.hi ≠ 0 by omega) (show b.In b.hi by unfold Sp.In; omega)
        exact in_btw e1 e2 (tdiv_btw_d (.inr hh) hy.1 hy.2)
      · have e2 := ends 2 (by omega) (show (-1 : Int) ≠ 0 by omega) (show b.In (-1) by unfold Sp.In; omega)
        exact in_btw e1 e2 (tdiv_btw_d (l := b.lo) (h := -1) (.inr (by omega)) hy.1 (by omega))
    · have e2 := ends 1 (by omega) (show b.hi ≠ 0 by omega) (show b.In b.hi by unfold Sp.In; omega)
      by_cases hh : 0 < b.lo
      · have e1 := ends 0 (by omega) (show b.lo ≠ 0 by omega) (show b.In b.lo by unfold Sp.In; omega)
        exact in_btw e1 e2 (tdiv_btw_d (.inl hh) hy.1 hy.2)
      · have e1 := ends 3 (by omega) (show (1 : Int) ≠ 0 by omega) (show b.In 1 by unfold Sp.In; omega)
        exact in_btw e1 e2 (tdiv_btw_d (l := 1) (h := b.hi) (.inl (by omega)) (by omega) hy.2)
theorem tmod_facts (x : Int) {y : Int} (y0 : y ≠ 0) : (x.tmod y).natAbs < y.natAbs ∧ (x.tmod y).natAbs ≤ x.natAbs ∧ (0 ≤ x → 0 ≤ x.tmod y) ∧ (x ≤ 0 → x.tmod y ≤ 0) := by
  have e := Int.natAbs_tmod x y
  refine ⟨?_, ?_, fun h => Int.tmod_nonneg y h, fun h => ?_⟩
  · rw [e]; exact Nat.mod_lt _ (by omega)
  · rw [e]; exact Nat.mod_le _ _
  · obtain ⟨z, rfl⟩ : ∃ z, x = -z := ⟨-x, by omega⟩
    rw [Int.neg_tmod]
    have := Int.tmod_nonneg y (show 0 ≤ z by omega)
    omega
theorem rem_true {a b : Sp} {x y : Int} (hx : a.In x) (hy : b.In y) (y0 : y ≠ 0) : (leftS a b).In (x.tmod y) := by
  obtain ⟨f1, f2, f3, f4⟩ := tmod_facts x y0
  generalize x.tmod y = r at *
  unfold Sp.In at *
  unfold leftS leftM Sp.mx Sp.mn
  dsimp only
  constructor
  · split <;> (try split) <;> (try split) <;> omega
  · split <;> (try split) <;> (try split) <;> omega
theorem lt_true {a b : Sp} {x y : Int} (hx : a.In x) (hy : b.In y) : (ltS a b).In (if x < y then 1 else 0) := by
  unfold Sp.In at *
  unfold ltS Sp.truth
  simp only [decide_eq_true_eq]
  constructor <;> split <;> (try split) <;> (try split) <;> simp <;> omega
theorem eq_true {a b : Sp} {x y : Int} (hx : a.In x) (hy : b.In y) : (eqS a b).In (if x = y then 1 else 0) := by
  have hm : a.meetOk b = false → x ≠ y := fun h e => by
    subst e
    unfold Sp.meetOk Sp.meetS Sp.none Sp.mx Sp.mn at h
    unfold Sp.In at *
    simp only [Bool.not_eq_false', decide_eq_true_eq] at h
    revert h; split <;> split <;> omega
  unfold eqS Sp.truth
  cases h1 : (bothPoint a b && decide (a.lo = b.lo))
  · cases h2 : a.meetOk b
    · have := hm h2
      simp [Sp.In, this]
    · simp only [Bool.false_eq_true, if_false, Bool.not_true]
      unfold Sp.In
      constructor <;> split <;> simp
  · simp only [Bool.and_eq_true, decide_eq_true_eq] at h1
    have := bothPoint_eq h1.1
    unfold Sp.In at *
    have : x = y := by omega
    simp [this]
theorem not_true {a : Sp} {x : Int} (hx : a.In x) : (notS a).In (if x = 0 then 1 else 0) := by
  unfold Sp.In at *
  unfold notS Sp.truth Sp.zero Sp.has
  simp only [Bool.and_eq_true, decide_eq_true_eq, Bool.not_eq_true', Bool.and_eq_false_iff, decide_eq_false_iff_not]
  constructor <;> split <;> (try split) <;> (try split) <;> simp <;> omega
/-- THE STAGE'S THEOREM, in plain numbers. -/
theorem do_true {op : Int} {a b : Sp} {x y : Int} (ha : a.Wf) (hb : b.Wf) (hx : a.In x) (hy0 : op ≠ 10 → b.In y) (hk : opOk op y = true) : doOk op a b = true ∧ (doSp op a b).In (opV op x y) := by
  have hna : a.none = false := by unfold Sp.In at hx; simp [Sp.none]; omega
  by_cases o10 : op = 10
  · subst o10
    refine ⟨by simp [doOk, hna], ?_⟩
    simpa [doSp, doOk, hna, opV] using not_true hx
  have hy := hy0 o10
  clear hy0
  have hnb : b.none = false := by unfold Sp.In at hy; simp [Sp.none]; omega
  have hz : y ≠ 0 → b.zero = false := fun h => by
    unfold Sp.In at hy
    simp only [Sp.zero, Bool.and_eq_false_iff, decide_eq_false_iff_not]; omega
  by_cases o3 : op = 3
  · subst o3; refine ⟨by simp [doOk, hna, hnb], ?_⟩; simpa [doSp, doOk, hna, hnb, opV] using add_true hx hy
  by_cases o4 : op = 4
  · subst o4; refine ⟨by simp [doOk, hna, hnb], ?_⟩; simpa [doSp, doOk, hna, hnb, opV] using sub_true hx hy
  by_cases o5 : op = 5
  · subst o5; refine ⟨by simp [doOk, hna, hnb], ?_⟩; simpa [doSp, doOk, hna, hnb, opV] using mul_true hx hy
  by_cases o6 : op = 6
  · subst o6
    have y0 : y ≠ 0 := by simpa [opOk] using hk
    refine ⟨by simp [doOk, hna, hnb, hz y0], ?_⟩; simpa [doSp, doOk, hna, hnb, opV, hz y0, y0] using div_true ha hb hx hy y0
  by_cases o7 : op = 7
  · subst o7
    have y0 : y ≠ 0 := by simpa [opOk] using hk
    refine ⟨by simp [doOk, hna, hnb, hz y0], ?_⟩; simpa [doSp, doOk, hna, hnb, opV, hz y0, y0] using rem_true hx hy y0
  by_cases o8 : op = 8
  · subst o8; refine ⟨by simp [doOk, hna, hnb], ?_⟩; simpa [doSp, doOk, hna, hnb, opV] using lt_true hx hy
  by_cases o9 : op = 9
  · subst o9; refine ⟨by simp [doOk, hna, hnb], ?_⟩; simpa [doSp, doOk, hna, hnb, opV] using eq_true hx hy
  simp [opOk, o3, o4, o5, o6, o7, o8, o9, o10] at hk
/-! ### Of spans that have more, no less -/
/-- Has the second one all that the first one has? -/
theorem within_iff {a b : Sp} : a.within b = true ↔ (a.lo ≤ a.hi → b.lo ≤ a.lo ∧ a.hi ≤ b.hi) := by
  simp only [Sp.within, Sp.none, Bool.or_eq_true, Bool.and_eq_true, decide_eq_true_eq]; omega
theorem add_grows {a b c d : Sp} (na : a.lo ≤ a.hi) (nb : b.lo ≤ b.hi) (hc : c.lo ≤ a.lo ∧ a.hi ≤ c.hi) (hd : d.lo ≤ b.lo ∧ b.hi ≤ d.hi) : (addS c d).lo ≤ (addS a b).lo ∧ (addS a b).hi ≤ (addS c d).hi := by
  have t1 : (addS c d).In (wrap64 (a.lo + b.lo)) := add_true (by unfold Sp.In; omega) (by unfold Sp.In; omega)
  have t2 : (addS c d).In (wrap64 (a.hi + b.hi)) := add_true (by unfold Sp.In; omega) (by unfold Sp.In; omega)
  cases hp : bothPoint a b
  · cases h : (Sp.sumOk a.lo b.lo && Sp.sumOk a.hi b.hi)
    · have h2 : bothPoint c d = false := by
        cases h2 : bothPoint c d
        · rfl
        · have := bothPoint_eq h2
          have : bothPoint a b = true := by simp [bothPoint, Sp.point]; omega
          rw [this] at hp; cases hp
      have h3 : (Sp.sumOk c.lo d.lo && Sp.sumOk c.hi d.hi) = false := by
        cases h3 : (Sp.sumOk c.lo d.lo && Sp.sumOk c.hi d.hi)
        · rfl
        · simp only [Bool.and_eq_true, sumOk_iff] at h3
          have : (Sp.sumOk a.lo b.lo && Sp.sumOk a.hi b.hi) = true := by simp only [Bool.and_eq_true, sumOk_iff]; omega
          rw [this] at h; cases h
      have e : addS a b = addS c d := by unfold addS; rw [hp, h, h2, h3]; rfl
      rw [e]; exact ⟨Int.le_refl _, Int.le_refl _⟩
    · have e : addS a b = hullTo [a.lo + b.lo, a.hi + b.hi] 2 := by unfold addS; rw [hp, h]; rfl
      simp only [Bool.and_eq_true] at h
      rw [sumOk_wrap h.1] at t1
      rw [sumOk_wrap h.2] at t2
      rw [e]
      refine hull_sub t1 2 (fun i hi => ?_)
      obtain rfl | rfl : i = 0 ∨ i = 1 := by omega
      · exact t1
      · exact t2
  · have e : addS a b = ⟨wrap64 (a.lo + b.lo), wrap64 (a.lo + b.lo)⟩ := by unfold addS; rw [hp]; rfl
    rw [e]; exact t1
theorem sub_grows {a b c d : Sp} (na : a.lo ≤ a.hi) (nb : b.lo ≤ b.hi) (hc : c.lo ≤ a.lo ∧ a.hi ≤ c.hi) (hd : d.lo ≤ b.lo ∧ b.hi ≤ d.hi) : (subS c d).lo ≤ (subS a b).lo ∧ (subS a b).hi ≤ (subS c d).hi := by
  have t0 : (subS c d).In (wrap64 (a.lo - b.lo)) := sub_true (by unfold Sp.In; omega) (by unfold Sp.In; omega)
  have t1 : (subS c d).In (wrap64 (a.lo - b.hi)) := sub_true (by unfold Sp.In; omega) (by unfold Sp.In; omega)
  have t2 : (subS c d).In (wrap64 (a.hi - b.lo)) := sub_true (by unfold Sp.In; omega) (by unfold Sp.In; omega)
  cases hp : bothPoint a b
  · cases h : (Sp.lessOk a.lo b.hi && Sp.lessOk a.hi b.lo)
    · have h2 : bothPoint c d = false := by
        cases h2 : bothPoint c d
        · rfl
        · have := bothPoint_eq h2
          have : bothPoint a b = true := by simp [bothPoint, Sp.point]; omega
          rw [this] at hp; cases hp
      have h3 : (Sp.lessOk c.lo d.hi && Sp.lessOk c.hi d.lo) = false := by
        cases h3 : (Sp.lessOk c.lo d.hi && Sp.lessOk c.hi d.lo)
        · rfl
        · simp only [Bool.and_eq_true, lessOk_iff] at h3
          have : (Sp.lessOk a.lo b.hi && Sp.lessOk a.hi b.lo) = true := by simp only [Bool.and_eq_true, lessOk_iff]; omega
          rw [this] at h; cases h
      have e : subS a b = subS c d := by unfold subS; rw [hp, h, h2, h3]; rfl
      rw [e]; exact ⟨Int.le_refl _, Int.le_refl _⟩
    · have e : subS a b = hullTo [a.lo - b.hi, a.hi - b.lo] 2 := by unfold subS; rw [hp, h]; rfl
      simp only [Bool.and_eq_true] at h
      rw [lessOk_wrap h.1] at t1
      rw [lessOk_wrap h.2] at t2
      rw [e]
      refine hull_sub t1 2 (fun i hi => ?_)
      obtain rfl | rfl : i = 0 ∨ i = 1 := by omega
      · exact t1
      · exact t2
  · have e : subS a b = ⟨wrap64 (a.lo - b.lo), wrap64 (a.lo - b.lo)⟩ := by unfold subS; rw [hp]; rfl
    rw [e]; exact t0
theorem mul_grows {a b c d : Sp} (na : a.lo ≤ a.hi) (nb : b.lo ≤ b.hi) (hc : c.lo ≤ a.lo ∧ a.hi ≤ c.hi) (hd : d.lo ≤ b.lo ∧ b.hi ≤ d.hi) : (mulS c d).lo ≤ (mulS a b).lo ∧ (mulS a b).hi ≤ (mulS c d).hi := by
  have i1 : c.In a.lo := by unfold Sp.In; omega
  have i2 : c.In a.hi := by unfold Sp.In; omega
  have i3 : d.In b.lo := by unfold Sp.In; omega
  have i4 : d.In b.hi := by unfold Sp.In; omega
  have t1 := mul_true i1 i3
  have t2 := mul_true i1 i4
  have t3 := mul_true i2 i3
  have t4 := mul_true i2 i4
  cases hp : bothPoint a b
  · cases h : (mulOk a.lo b.lo && mulOk a.lo b.hi && mulOk a.hi b.lo && mulOk a.hi b.hi)
    · have h2 : bothPoint c d = false := by
        cases h2 : bothPoint c d
        · rfl
        · have := bothPoint_eq h2
          have : bothPoint a b = true := by simp [bothPoint, Sp.point]; omega
          rw [this] at hp; cases hp
      have h3 : (mulOk c.lo d.lo && mulOk c.lo d.hi && mulOk c.hi d.lo && mulOk c.hi d.hi) = false := by
        cases h3 : (mulOk c.lo d.lo && mulOk c.lo d.hi && mulOk c.hi d.lo && mulOk c.hi d.hi)
        · rfl
        · simp only [Bool.and_eq_true, all_mulOk] at h3
          obtain ⟨⟨⟨h1, h2⟩, h3⟩, h4⟩ := h3
          have : (mulOk a.lo b.lo && mulOk a.lo b.hi && mulOk a.hi b.lo && mulOk a.hi b.hi) = true := by
            simp only [Bool.and_eq_true, all_mulOk]
            exact ⟨⟨⟨mul_in i1 i3 h1 h2 h3 h4, mul_in i1 i4 h1 h2 h3 h4⟩, mul_in i2 i3 h1 h2 h3 h4⟩, mul_in i2 i4 h1 h2 h3 h4⟩
          rw [this] at h; cases h
      have e : mulS a b = mulS c d := by unfold mulS; rw [hp, h, h2, h3]; rfl
      rw [e]; exact ⟨Int.le_refl _, Int.le_refl _⟩
    · have e : mulS a b = hullTo [a.lo * b.lo, a.lo * b.hi, a.hi * b.lo, a.hi * b.hi] 4 := by unfold mulS; rw [hp, h]; rfl
      simp only [Bool.and_eq_true] at h
      obtain ⟨⟨⟨h1, h2⟩, h3⟩, h4⟩ := h
      rw [mulOk_wrap h1] at t1
      rw [mulOk_wrap h2] at t2
      rw [mulOk_wrap h3] at t3
      rw [mulOk_wrap h4] at t4
      rw [e]
      refine hull_sub t1 4 (fun i hi => ?_)
      obtain rfl | rfl | rfl | rfl : i = 0 ∨ i = 1 ∨ i = 2 ∨ i = 3 := by omega
      · exact t1
      · exact t2
      · exact t3
      · exact t4
  · have e : mulS a b = ⟨wrap64 (a.lo * b.lo), wrap64 (a.lo * b.lo)⟩ := by unfold mulS; rw [hp]; rfl
    rw [e]; exact t1
theorem div_grows {a b c d : Sp} (wc : c.Wf) (wd : d.Wf) (na : a.lo ≤ a.hi) (nb : b.lo ≤ b.hi) (nz : b.lo ≠ 0 ∨ b.hi ≠ 0) (hc : c.lo ≤ a.lo ∧ a.hi ≤ c.hi) (hd : d.lo ≤ b.lo ∧ b.hi ≤ d.hi) :
    (divS c d).lo ≤ (divS a b).lo ∧ (divS a b).hi ≤ (divS c d).hi := by
  by_cases hn : a.lo = Sp.least ∧ b.has (-1) = true
  · have hn2 : c.lo = Sp.least ∧ d.has (-1) = true := by
      obtain ⟨h1, h2⟩ := hn
      obtain ⟨⟨w1, _⟩, _⟩ := wc
      simp only [Sp.has, Bool.and_eq_true, decide_eq_true_eq] at h2 ⊢
      simp only [Sp.least] at h1 ⊢
      omega
    have e : divS a b = divS c d := by unfold divS; rw [if_pos hn, if_pos hn2]
    rw [e]; exact ⟨Int.le_refl _, Int.le_refl _⟩
  · have e : divS a b = hullTo (quots a b 4) (quots a b 4).length := by unfold divS; rw [if_neg hn]
    have hq : ∀ z, z ∈ quots a b 4 → (divS c d).In z := quots_all (fun k hk hco => by
      have hco' : cand b k ≠ 0 ∧ b.has (cand b k) = true := by simpa [candOk] using hco
      obtain ⟨k0, kb⟩ := hco'
      simp only [Sp.has, Bool.and_eq_true, decide_eq_true_eq] at kb
      have kd : d.In (cand b k) := by unfold Sp.In; omega
      exact ⟨div_true wc wd (by unfold Sp.In; omega) kd k0, div_true wc wd (by unfold Sp.In; omega) kd k0⟩) 4 (Nat.le_refl _)
    have hl : 0 < (quots a b 4).length := quots_some nb nz
    rw [e]
    exact hull_sub (hq _ (nth_mem hl)) _ (fun i hi => hq _ (nth_mem hi))
theorem rem_grows {a b c d : Sp} (na : a.lo ≤ a.hi) (nb : b.lo ≤ b.hi) (nz : b.lo ≠ 0 ∨ b.hi ≠ 0) (hc : c.lo ≤ a.lo ∧ a.hi ≤ c.hi) (hd : d.lo ≤ b.lo ∧ b.hi ≤ d.hi) :
    (leftS c d).lo ≤ (leftS a b).lo ∧ (leftS a b).hi ≤ (leftS c d).hi := by
  have hm : leftM b ≤ leftM d ∧ 0 ≤ leftM b := by
    unfold leftM
    split <;> split <;> omega
  unfold leftS Sp.mx Sp.mn
  generalize leftM b = m at *
  generalize leftM d = n at *
  dsimp only
  constructor
  · split <;> (try split) <;> (try split) <;> (try split) <;> omega
  · split <;> (try split) <;> (try split) <;> (try split) <;> omega
/-- Where less is sure, less is told. -/
theorem truth_grows {p q r s : Bool} (h1 : r = true → p = true) (h2 : r = false → s = true → p = false ∧ q = true) : (Sp.truth r s).lo ≤ (Sp.truth p q).lo ∧ (Sp.truth p q).hi ≤ (Sp.truth r s).hi := by
  cases r
  · cases s
    · cases p <;> cases q <;> simp [Sp.truth]
    · obtain ⟨rfl, rfl⟩ := h2 rfl rfl
      simp [Sp.truth]
  · obtain rfl := h1 rfl
    simp [Sp.truth]
theorem lt_grows {a b c d : Sp} (na : a.lo ≤ a.hi) (nb : b.lo ≤ b.hi) (hc : c.lo ≤ a.lo ∧ a.hi ≤ c.hi) (hd : d.lo ≤ b.lo ∧ b.hi ≤ d.hi) : (ltS c d).lo ≤ (ltS a b).lo ∧ (ltS a b).hi ≤ (ltS c d).hi := by
  unfold ltS
  refine truth_grows (fun h => ?_) (fun _ h => ?_)
  · simp only [decide_eq_true_eq] at *; omega
  · simp only [decide_eq_true_eq, decide_eq_false_iff_not] at *; omega
theorem meet_no {a b : Sp} : a.meetOk b = false ↔ (if a.hi < b.hi then a.hi else b.hi) < (if b.lo < a.lo then a.lo else b.lo) := by
  unfold Sp.meetOk Sp.meetS Sp.none Sp.mx Sp.mn
  simp only [Bool.not_eq_false', decide_eq_true_eq]
theorem eq_grows {a b c d : Sp} (na : a.lo ≤ a.hi) (nb : b.lo ≤ b.hi) (hc : c.lo ≤ a.lo ∧ a.hi ≤ c.hi) (hd : d.lo ≤ b.lo ∧ b.hi ≤ d.hi) : (eqS c d).lo ≤ (eqS a b).lo ∧ (eqS a b).hi ≤ (eqS c d).hi := by
  unfold eqS
  refine truth_grows (fun h => ?_) (fun _ h => ?_)
  · simp only [Bool.and_eq_true, decide_eq_true_eq] at h
    have := bothPoint_eq h.1
    simp [bothPoint, Sp.point]; omega
  · have h : c.meetOk d = false := by simpa using h
    have h2 : a.meetOk b = false := by
      rw [meet_no] at h ⊢
      revert h; split <;> split <;> split <;> split <;> omega
    refine ⟨?_, by rw [h2]; rfl⟩
    cases h3 : (bothPoint a b && decide (a.lo = b.lo))
    · rfl
    · exfalso
      simp only [Bool.and_eq_true, decide_eq_true_eq] at h3
      have := bothPoint_eq h3.1
      rw [meet_no] at h2
      revert h2; split <;> split <;> omega
theorem not_grows {a c : Sp} (na : a.lo ≤ a.hi) (hc : c.lo ≤ a.lo ∧ a.hi ≤ c.hi) : (notS c).lo ≤ (notS a).lo ∧ (notS a).hi ≤ (notS c).hi := by
  unfold notS Sp.zero Sp.has
  refine truth_grows (fun h => ?_) (fun _ h => ?_)
  · simp only [Bool.and_eq_true, decide_eq_true_eq] at *; omega
  · simp only [Bool.and_eq_true, decide_eq_true_eq, Bool.not_eq_true', Bool.and_eq_false_iff, decide_eq_false_iff_not] at *; omega
theorem do_grows {op : Int} {a b c d : Sp} (wc : c.Wf) (wd : d.Wf) (hc : a.within c = true) (hd : b.within d = true) (h : doOk op a b = true) : doOk op c d = true ∧ (doSp op a b).within (doSp op c d) = true := by
  have na : a.none = false := by cases e : a.none <;> simp [doOk, e] at h ⊢
  have na' : a.lo ≤ a.hi := by simpa [Sp.none] using na
  have hc' := within_iff.1 hc na'
  have nc : c.none = false := by simp [Sp.none]; omega
  by_cases o10 : op = 10
  · subst o10
    refine ⟨by simp [doOk, nc], within_iff.2 fun _ => ?_⟩
    simpa [doSp, doOk, na, nc] using not_grows na' hc'
  have nb : b.none = false := by cases e : b.none <;> simp [doOk, e, o10, na] at h ⊢
  have nb' : b.lo ≤ b.hi := by simpa [Sp.none] using nb
  have hd' := within_iff.1 hd nb'
  have nd : d.none = false := by simp [Sp.none]; omega
  have hz : b.zero = false → d.zero = false ∧ (b.lo ≠ 0 ∨ b.hi ≠ 0) := fun h => by
    simp only [Sp.zero, Bool.and_eq_false_iff, decide_eq_false_iff_not] at *; omega
  by_cases o3 : op = 3
  · subst o3
    refine ⟨by simp [doOk, nc, nd], within_iff.2 fun _ => ?_⟩
    simpa [doSp, doOk, na, nc, nb, nd] using add_grows na' nb' hc' hd'
  by_cases o4 : op = 4
  · subst o4
    refine ⟨by simp [doOk, nc, nd], within_iff.2 fun _ => ?_⟩
    simpa [doSp, doOk, na, nc, nb, nd] using sub_grows na' nb' hc' hd'
  by_cases o5 : op = 5
  · subst o5
    refine ⟨by simp [doOk, nc, nd], within_iff.2 fun _ => ?_⟩
    simpa [doSp, doOk, na, nc, nb, nd] using mul_grows na' nb' hc' hd'
  by_cases o6 : op = 6
  · subst o6
    have zb : b.zero = false := by simpa [doOk, na, nb] using h
    obtain ⟨zd, nz⟩ := hz zb
    refine ⟨by simp [doOk, nc, nd, zd], within_iff.2 fun _ => ?_⟩
    simpa [doSp, doOk, na, nc, nb, nd, zb, zd] using div_grows wc wd na' nb' nz hc' hd'
  by_cases o7 : op = 7
  · subst o7
    have zb : b.zero = false := by simpa [doOk, na, nb] using h
    obtain ⟨zd, nz⟩ := hz zb
    refine ⟨by simp [doOk, nc, nd, zd], within_iff.2 fun _ => ?_⟩
    simpa [doSp, doOk, na, nc, nb, nd, zb, zd] using rem_grows na' nb' nz hc' hd'
  by_cases o8 : op = 8
  · subst o8
    refine ⟨by simp [doOk, nc, nd], within_iff.2 fun _ => ?_⟩
    simpa [doSp, doOk, na, nc, nb, nd] using lt_grows na' nb' hc' hd'
  by_cases o9 : op = 9
  · subst o9
    refine ⟨by simp [doOk, nc, nd], within_iff.2 fun _ => ?_⟩
    simpa [doSp, doOk, na, nc, nb, nd] using eq_grows na' nb' hc' hd'
  simp [doOk, o3, o4, o5, o6, o7, o8, o9, o10] at h
theorem join_within1 (a b : Sp) : a.within (a.join b) = true := within_iff.2 fun h => by
  have na : a.none = false := by simp [Sp.none]; omega
  unfold Sp.join
  rw [na]
  simp only [Bool.false_eq_true, if_false]
  split
  · exact ⟨Int.le_refl _, Int.le_refl _⟩
  · simp only [Sp.mn, Sp.mx]; constructor <;> split <;> omega
theorem join_within2 (a b : Sp) : b.within (a.join b) = true := within_iff.2 fun h => by
  have nb : b.none = false := by simp [Sp.none]; omega
  unfold Sp.join
  rw [nb]
  split
  · exact ⟨Int.le_refl _, Int.le_refl _⟩
  · simp only [Bool.false_eq_true, if_false, Sp.mn, Sp.mx]; constructor <;> split <;> omega
theorem join_Wf {a b : Sp} (ha : a.Wf) (hb : b.Wf) : (a.join b).Wf := by
  unfold Sp.join
  obtain ⟨⟨_, _⟩, _, _⟩ := ha
  obtain ⟨⟨_, _⟩, _, _⟩ := hb
  split
  · exact ⟨⟨by assumption, by assumption⟩, by assumption, by assumption⟩
  · split
    · exact ⟨⟨by assumption, by assumption⟩, by assumption, by assumption⟩
    · simp only [Sp.Wf, Sp.mn, Sp.mx]; (repeat' split) <;> omega
end Go.Proofs.YtddobhneplfddaaDoor

/-
  Layer 8 (span): how often a span that is widened again and again changes. No program in sight.
-/
namespace Go.Proofs.YtddobhneplfddaaDoor
set_option maxRecDepth 100000
open Go.RowKit
set_option linter.unusedSimpArgs false
set_option linter.unusedVariables false

/-- How many thresholds lie below a number, above it. -/
def cntLo (ts : List Int) (x : Int) : Nat := ts.countP fun t => decide (t < x)
def cntHi (ts : List Int) (x : Int) : Nat := ts.countP fun t => decide (x < t)
def phi (ts : List Int) (s : Sp) : Nat := cntLo ts s.lo + cntHi ts s.hi + (if Sp.least < s.lo then 1 else 0) + (if s.hi < Sp.greatest then 1 else 0)
theorem cnt_both (ts : List Int) {x y : Int} (h : x ≤ y) : cntLo ts x + cntHi ts y ≤ ts.length := by
  induction ts with
  | nil => simp [cntLo, cntHi]
  | cons t ts ih =>
    unfold cntLo cntHi at *
    rw [List.countP_cons, List.countP_cons, List.length_cons]
    simp only [decide_eq_true_eq]
    split <;> split <;> omega
theorem phi_start (ts : List Int) {s : Sp} (h : s.lo ≤ s.hi) : phi ts s ≤ ts.length + 2 := by
  have := cnt_both ts h
  unfold phi
  split <;> split <;> omega
theorem cntLo_le (ts : List Int) {x y : Int} (h : x ≤ y) : cntLo ts x ≤ cntLo ts y :=
  List.countP_mono_left fun t _ ht => by simp only [decide_eq_true_eq] at *; omega
theorem cntHi_le (ts : List Int) {x y : Int} (h : x ≤ y) : cntHi ts y ≤ cntHi ts x :=
  List.countP_mono_left fun t _ ht => by simp only [decide_eq_true_eq] at *; omega
theorem cntLo_lt {ts : List Int} {x y : Int} (h : x < y) (hm : x ∈ ts) : cntLo ts x + 1 ≤ cntLo ts y := by
  induction ts with
  | nil => simp at hm
  | cons t ts ih =>
    have hle := cntLo_le ts (Int.le_of_lt h)
    unfold cntLo at *
    rw [List.countP_cons, List.countP_cons]
    simp only [decide_eq_true_eq]
    rcases List.mem_cons.1 hm with rfl | hm
    · rw [if_neg (by omega), if_pos h]; omega
    · have := ih hm
      split <;> split <;> omega
theorem cntHi_lt {ts : List Int} {x y : Int} (h : x < y) (hm : y ∈ ts) : cntHi ts y + 1 ≤ cntHi ts x := by
  induction ts with
  | nil => simp at hm
  | cons t ts ih =>
    have hle := cntHi_le ts (Int.le_of_lt h)
    unfold cntHi at *
    rw [List.countP_cons, List.countP_cons]
    simp only [decide_eq_true_eq]
    rcases List.mem_cons.1 hm with rfl | hm
    · rw [if_neg (by omega), if_pos h]; omega
    · have := ih hm
      split <;> split <;> omega
theorem wLo_is (ts : List Int) (j : Int) (hj : Sp.least ≤ j) : ∀ k, k ≤ ts.length → wLo ts j k ≤ j ∧ (wLo ts j k = Sp.least ∨ wLo ts j k ∈ ts) ∧ Sp.least ≤ wLo ts j k
  | 0, _ => ⟨hj, .inl rfl, Int.le_refl _⟩
  | k + 1, h => by
    obtain ⟨h1, h2⟩ := wLo_is ts j hj k (by omega)
    rcases Int.lt_or_le j (nthI ts k) with g | g
    · rw [wLo_no g]; exact ⟨h1, h2⟩
    · rw [wLo_yes g]
      unfold Sp.mx
      split
      · exact ⟨h1, h2⟩
      · exact ⟨g, .inr (nth_mem (by omega)), by omega⟩
theorem wHi_is (ts : List Int) (j : Int) (hj : j ≤ Sp.greatest) : ∀ k, k ≤ ts.length → j ≤ wHi ts j k ∧ (wHi ts j k = Sp.greatest ∨ wHi ts j k ∈ ts) ∧ wHi ts j k ≤ Sp.greatest
  | 0, _ => ⟨hj, .inl rfl, Int.le_refl _⟩
  | k + 1, h => by
    obtain ⟨h1, h2⟩ := wHi_is ts j hj k (by omega)
    rcases Int.lt_or_le (nthI ts k) j with g | g
    · rw [wHi_no g]; exact ⟨h1, h2⟩
    · rw [wHi_yes g]
      unfold Sp.mn
      split
      · exact ⟨h1, h2⟩
      · exact ⟨g, .inr (nth_mem (by omega)), by omega⟩
theorem lo_step {ts : List Int} {x y : Int} (h : x < y) (hx : x = Sp.least ∨ x ∈ ts) (hl : Sp.least ≤ x) : cntLo ts x + (if Sp.least < x then 1 else 0) + 1 ≤ cntLo ts y + (if Sp.least < y then 1 else 0) := by
  have h1 := cntLo_le ts (Int.le_of_lt h)
  rcases hx with hx | hx
  · rw [if_neg (by omega), if_pos (by omega)]; omega
  · have := cntLo_lt h hx
    split <;> split <;> omega
theorem hi_step {ts : List Int} {x y : Int} (h : x < y) (hx : y = Sp.greatest ∨ y ∈ ts) (hl : y ≤ Sp.greatest) : cntHi ts y + (if y < Sp.greatest then 1 else 0) + 1 ≤ cntHi ts x + (if x < Sp.greatest then 1 else 0) := by
  have h1 := cntHi_le ts (Int.le_of_lt h)
  rcases hx with hx | hx
  · rw [if_neg (by omega), if_pos (by omega)]; omega
  · have := cntHi_lt h hx
    split <;> split <;> omega
theorem widen_is {s b : Sp} (ts : List Int) (hb : b.Wf) (hs : s.none = false) (hn : b.none = false) :
    ((widen s b ts).lo = s.lo ∨ ((widen s b ts).lo < s.lo ∧ ((widen s b ts).lo = Sp.least ∨ (widen s b ts).lo ∈ ts) ∧ Sp.least ≤ (widen s b ts).lo)) ∧ ((widen s b ts).hi = s.hi ∨ (s.hi < (widen s b ts).hi ∧ ((widen s b ts).hi = Sp.greatest ∨ (widen s b ts).hi ∈ ts) ∧ (widen s b ts).hi ≤ Sp.greatest)) ∧
    (widen s b ts).lo ≤ b.lo ∧ b.hi ≤ (widen s b ts).hi := by
  obtain ⟨⟨w1, w2⟩, w3, w4⟩ := hb
  obtain ⟨l1, l2⟩ := wLo_is ts b.lo w1 ts.length (Nat.le_refl _)
  obtain ⟨r1, r2⟩ := wHi_is ts b.hi w4 ts.length (Nat.le_refl _)
  have e : widen s b ts = ⟨if b.lo < s.lo then wLo ts b.lo ts.length else s.lo, if s.hi < b.hi then wHi ts b.hi ts.length else s.hi⟩ := by unfold widen; rw [hs, hn]; rfl
  rw [e]
  dsimp only
  refine ⟨?_, ?_, ?_, ?_⟩
  · split
    · exact .inr ⟨by omega, l2⟩
    · exact .inl rfl
  · split
    · exact .inr ⟨by omega, r2⟩
    · exact .inl rfl
  · split <;> omega
  · split <;> omega
theorem widen_within1 {s b : Sp} (ts : List Int) (hb : b.Wf) : s.within (widen s b ts) = true := within_iff.2 fun h => by
  have hs : s.none = false := by simp [Sp.none]; omega
  cases hn : b.none
  · obtain ⟨h1, h2, _, _⟩ := widen_is ts hb hs hn
    omega
  · have e : widen s b ts = s := by unfold widen; rw [hs, hn]; rfl
    rw [e]; exact ⟨Int.le_refl _, Int.le_refl _⟩
theorem widen_within2 {s b : Sp} (ts : List Int) (hb : b.Wf) : b.within (widen s b ts) = true := within_iff.2 fun h => by
  have hn : b.none = false := by simp [Sp.none]; omega
  cases hs : s.none
  · obtain ⟨_, _, h1, h2⟩ := widen_is ts hb hs hn
    omega
  · have e : widen s b ts = b := by unfold widen; rw [hs]; rfl
    rw [e]; exact ⟨Int.le_refl _, Int.le_refl _⟩
end Go.Proofs.YtddobhneplfddaaDoor

namespace Go.Proofs.YtddobhneplfddaaDoor
set_option maxRecDepth 100000
open Go.RowKit
set_option linter.unusedSimpArgs false
set_option linter.unusedVariables false
theorem gwPut {A B : World} {o : Option Nat} (h : A.grownBy B o) {p : Addr} (hp : A.heap.size ≤ p.block) (v : Value) : A.grownBy (B.setCell p v) o :=
  ⟨h.os, h.tape, h.output, by have := h.size; simpa using this, fun k hk hr => by
    rw [Below.heap_setCell _ _ _ k (by omega)]; exact h.block k hk hr⟩
theorem gwPutG {A B : World} {g : Nat} (h : A.grownBy B (some g)) (i : Nat) (v : Value) : A.grownBy (B.setCell ⟨g, i, none⟩ v) (some g) := gwTrans h (gwSet _ _ _ _)
theorem gwNew {A B : World} {o : Option Nat} (h : A.grownBy B o) (b : Obj) : A.grownBy (B.alloc b) o := gwTrans h (gwAlloc _ _ _)
theorem gwDrawn {A B : World} {o : Option Nat} (h : A.grownBy B o) : A.grownBy B.drew o := gwTrans h (gwDrew _ _)
theorem gwDrawnN {A B : World} {o : Option Nat} (h : A.grownBy B o) (n : Nat) : A.grownBy (B.drewN n) o := gwTrans h (gwDrewN _ _ _)
theorem gwStep {A B C : World} {o : Option Nat} (h : A.grownBy B o) (k : Below B.heap.size B C) : A.grownBy C o := gwTrans h (gwBelow k _)
set_option maxHeartbeats 4000000 in
theorem meetC (a s : Sp) (k g rb nr cp : Nat) (r : List Sp) (hr : r.length = nr) (hcp : cp ≤ maxLen) (hc : nr ≤ cp) (hs : r[k]? = some s) (w : World) (hR : RowS w g cp r) (hb : w.cell? ⟨rb, 0, none⟩ = some (.slice (some ⟨g, 0, none⟩) nr cp)) (lb : rb < w.heap.size) (hne : rb ≠ g) :
    Calls Tryd.prog 53 #[.int .i64 (k : Int), .agg #[.int .i64 a.lo, .int .i64 a.hi], .pointer (some ⟨rb, 0, none⟩)] w fun e w' => e = .returned (.bool (s.meetOk a)) ∧ RowS w' g cp (r.set k (s.meet a)) ∧ w.grownBy w' (some g) := by
  obtain ⟨hk, y0, y1, f0, f1⟩ := hR.cells4 hs
  have lg := hR.lt
  have hkn : ((k : Nat) : Int) < (nr : Int) := by omega
  unfold maxLen at hcp
  have HR := Lib.hid hR
  have W1 := Whl.new w 34 #[.int .i64 a.lo, .int .i64 a.hi]
  have p0 := W1.cell 0
  have p1 := W1.cell 1
  have hb' : (w.alloc (.cells #[.int .i64 a.lo, .int .i64 a.hi] 34)).cell? ⟨rb, 0, none⟩ = some (.slice (some ⟨g, 0, none⟩) nr cp) := cellA' hb
  have y0' : (w.alloc (.cells #[.int .i64 a.lo, .int .i64 a.hi] 34)).cell? ⟨g, k * 2, none⟩ = some (.int .i64 s.lo) := cellA' y0
  have y1' : (w.alloc (.cells #[.int .i64 a.lo, .int .i64 a.hi] 34)).cell? ⟨g, k * 2 + 1, none⟩ = some (.int .i64 s.hi) := cellA' y1
  clear hR
  go_enter Tryd.func53, Tryd.ntmps53
  go_wp2
  have tok : True := trivial
  go_region_law (go_simp; go_at_call 54; refine (meetP s a _).mono ?_; rintro e w1 ⟨rfl, hb1⟩; obtain ⟨hcc1, hff1⟩ := bcell hb1; have hs1 := hb1.size; (try simp at hs1); have l1 : rb < w1.heap.size := (by omega); have l2 : g < w1.heap.size := (by omega); have l3 : w.heap.size < w1.heap.size := (by omega); have z0 : w1.cell? ⟨rb, 0, none⟩ = some (.slice (some ⟨g, 0, none⟩) nr cp) := (by rw [hcc1 _ _ (by simp; omega)]; first | exact hb' | exact cellA' hb'); have z1 : w1.cell? ⟨g, k * 2, none⟩ = some (.int .i64 s.lo) := (by rw [hcc1 _ _ (by simp; omega)]; first | exact y0' | exact cellA' y0'); have z2 : w1.cell? ⟨g, k * 2 + 1, none⟩ = some (.int .i64 s.hi) := (by rw [hcc1 _ _ (by simp; omega)]; first | exact y1' | exact cellA' y1'))
  all_goals
    have H1 := Lib.hid hb1
    go_wp2
    have hR := HR.out
    have hb1 := H1.out
    refine ret_of ?_ rfl
    refine ⟨_, by simp [results, Tryd.results53, go_sem], rfl, ?_, ?_⟩
    · have R1 : RowS w1 g cp r := (by first | with_reducible exact ((hR.alloc _).drew).below' hb1 | with_reducible exact (((hR.alloc _).alloc _).drew).below' hb1)
      repeat (first | with_reducible exact R1 | with_reducible refine RowS.drew ?_ | with_reducible refine RowS.alloc ?_ _ | with_reducible refine RowS.set ?_ hk _ | (with_reducible refine RowS.far ?_ ?_ _; rotate_left; (· first | (simp; done) | (simp; omega))))
    · repeat (first | with_reducible exact gwRefl _ _ | with_reducible refine gwStep ?_ hb1 | with_reducible refine gwPutG ?_ _ _ | (with_reducible refine gwPut ?_ ?_ _; rotate_left; (· first | (simp; done) | (simp; omega))) | with_reducible refine gwNew ?_ _ | with_reducible refine gwDrawn ?_)
end Go.Proofs.YtddobhneplfddaaDoor

namespace Go.Proofs.YtddobhneplfddaaDoor
set_option maxRecDepth 100000
open Go.RowKit
set_option linter.unusedSimpArgs false
set_option linter.unusedVariables false
/-! ### Sums -/
def sumN : Nat → (Nat → Nat) → Nat
  | 0, _ => 0
  | n + 1, f => sumN n f + f n
theorem sumN_le {f g : Nat → Nat} : ∀ n, (∀ i, i < n → f i ≤ g i) → sumN n f ≤ sumN n g
  | 0, _ => Nat.le_refl _
  | n + 1, h => Nat.add_le_add (sumN_le n fun i hi => h i (by omega)) (h n (by omega))
theorem sumN_lt {f g : Nat → Nat} {k : Nat} (hk : f k < g k) : ∀ n, k < n → (∀ i, i < n → f i ≤ g i) → sumN n f < sumN n g
  | 0, h, _ => absurd h (by omega)
  | n + 1, h, hl => by
    have h1 := hl n (by omega)
    rcases Nat.lt_or_ge k n with h2 | h2
    · have := sumN_lt hk n h2 fun i hi => hl i (by omega)
      show sumN n f + f n < sumN n g + g n
      omega
    · obtain rfl : k = n := by omega
      have := sumN_le k fun i hi => hl i (by omega)
      show sumN k f + f k < sumN k g + g k
      omega
theorem sumN_const (c : Nat) {f : Nat → Nat} : ∀ n, (∀ i, i < n → f i ≤ c) → sumN n f ≤ n * c
  | 0, _ => by simp [sumN]
  | n + 1, h => by
    have := sumN_const c n fun i hi => h i (by omega)
    have h1 := h n (by omega)
    have e : (n + 1) * c = n * c + c := Nat.succ_mul n c
    show sumN n f + f n ≤ _
    omega
/-! ### Spans that grow -/
def z0 : Sp := ⟨0, 0⟩
def Gd (a : Sp) : Prop := a.lo ≤ a.hi ∧ a.Wf
def leS (a b : Sp) : Prop := b.lo ≤ a.lo ∧ a.hi ≤ b.hi
def LeR (a b : List Sp) : Prop := a.length = b.length ∧ ∀ k, k < a.length → leS (a.getD k z0) (b.getD k z0)
theorem leS_refl (a : Sp) : leS a a := ⟨Int.le_refl _, Int.le_refl _⟩
theorem leS_trans {a b c : Sp} (h : leS a b) (k : leS b c) : leS a c := ⟨Int.le_trans k.1 h.1, Int.le_trans h.2 k.2⟩
theorem LeR_refl (a : List Sp) : LeR a a := ⟨rfl, fun _ _ => leS_refl _⟩
theorem LeR_trans {a b c : List Sp} (h : LeR a b) (k : LeR b c) : LeR a c := ⟨h.1.trans k.1, fun i hi => leS_trans (h.2 i hi) (k.2 i (by rw [← h.1]; exact hi))⟩
theorem none_of {a : Sp} (h : a.lo ≤ a.hi) : a.none = false := by simp [Sp.none]; omega
theorem same_iff {a b : Sp} (ha : a.lo ≤ a.hi) (hb : b.lo ≤ b.hi) : sameSp (a.join b) a = true ↔ leS b a := by
  unfold sameSp leS
  rw [join_lo ha hb, join_hi ha hb]
  simp only [Bool.and_eq_true, beq_iff_eq, Sp.mn, Sp.mx]
  constructor
  · intro h
    constructor <;> (revert h; split <;> split <;> omega)
  · intro h
    constructor <;> split <;> omega
theorem grow_le {a b : Sp} (wide : Bool) (ths : List Int) (ha : Gd a) (hb : Gd b) (ht : ∀ t, t ∈ ths → In64 t) : Gd (growS wide ths a b) ∧ leS a (growS wide ths a b) ∧ leS b (growS wide ths a b) := by
  have na := none_of ha.1
  have nb := none_of hb.1
  unfold growS
  cases wide
  · simp only [Bool.false_eq_true, if_false]
    refine ⟨⟨?_, join_Wf ha.2 hb.2⟩, within_iff.1 (join_within1 a b) ha.1, within_iff.1 (join_within2 a b) hb.1⟩
    have h1 := within_iff.1 (join_within1 a b) ha.1
    have := ha.1
    omega
  · simp only [if_true]
    have h1 := within_iff.1 (widen_within1 (s := a) (b := b) ths hb.2) ha.1
    have h2 := within_iff.1 (widen_within2 (s := a) (b := b) ths hb.2) hb.1
    obtain ⟨i1, i2, _, _⟩ := widen_is ths hb.2 na nb
    have g1 := ha.1
    obtain ⟨⟨a1, a2⟩, a3, a4⟩ := ha.2
    refine ⟨⟨by omega, ⟨?_, by omega⟩, by omega, ?_⟩, h1, h2⟩
    · rcases i1 with i1 | ⟨_, i1 | i1, _⟩
      · omega
      · rw [i1]; decide
      · exact (ht _ i1).1
    · rcases i2 with i2 | ⟨_, i2 | i2, _⟩
      · omega
      · rw [i2]; decide
      · exact (ht _ i2).2
theorem grow_same {a b : Sp} (wide : Bool) (ths : List Int) (ha : Gd a) (hb : Gd b) (h : leS b a) : growS wide ths a b = a := by
  have na := none_of ha.1
  have nb := none_of hb.1
  obtain ⟨h1, h2⟩ := h
  unfold growS
  cases wide
  · simp only [Bool.false_eq_true, if_false]
    have := (same_iff ha.1 hb.1).2 ⟨h1, h2⟩
    simp only [sameSp, Bool.and_eq_true, beq_iff_eq] at this
    exact Sp.ext' this.1 this.2
  · simp only [if_true]
    unfold widen
    rw [na, nb]
    simp only [Bool.false_eq_true, if_false]
    rw [if_neg (by omega), if_neg (by omega)]
theorem phi_mono (ths : List Int) {a b : Sp} (h : leS a b) : phi ths b ≤ phi ths a := by
  have h1 := cntLo_le ths h.1
  have h2 := cntHi_le ths h.2
  obtain ⟨g1, g2⟩ := h
  unfold phi
  split <;> split <;> split <;> split <;> omega
theorem phi_wide {a b : Sp} (ths : List Int) (ha : Gd a) (hb : Gd b) (h : ¬ leS b a) : phi ths (growS true ths a b) + 1 ≤ phi ths a := by
  have na := none_of ha.1
  have nb := none_of hb.1
  obtain ⟨h1, h2, h3, h4⟩ := widen_is ths hb.2 na nb
  unfold growS
  simp only [if_true]
  generalize widen a b ths = n at *
  have hc : n.lo ≠ a.lo ∨ n.hi ≠ a.hi := by
    unfold leS at h; omega
  unfold phi
  by_cases l : n.lo = a.lo
  · have r : n.hi ≠ a.hi := by rcases hc with hc | hc; exact absurd l hc; exact hc
    obtain ⟨r1, r2, r3⟩ := h2.resolve_left r
    have := hi_step r1 r2 r3
    rw [l]; omega
  · obtain ⟨l1, l2, l3⟩ := h1.resolve_left l
    have hl := lo_step l1 l2 l3
    by_cases r : n.hi = a.hi
    · rw [r]; omega
    · obtain ⟨r1, r2, r3⟩ := h2.resolve_left r
      have := hi_step r1 r2 r3
      omega
/-! ### Lists by their places -/
theorem getD_set {α : Type} (l : List α) (i : Nat) (v d : α) (j : Nat) : (l.set i v).getD j d = if i = j ∧ i < l.length then v else l.getD j d := by
  simp only [List.getD_eq_getElem?_getD, List.getElem?_set]
  by_cases h : i = j
  · subst h
    by_cases h2 : i < l.length
    · simp [h2]
    · simp [h2]
  · simp [h]
theorem getD_zip {α β γ : Type} (f : α → β → γ) (a : List α) (b : List β) (da : α) (db : β) (dc : γ) (k : Nat) (h1 : k < a.length) (h2 : k < b.length) : (List.zipWith f a b).getD k dc = f (a.getD k da) (b.getD k db) := by
  simp [List.getD_eq_getElem?_getD, List.getElem?_zipWith, h1, h2]
theorem sameRow_iff {old next : List Sp} (hl : old.length = next.length) (ho : ∀ k, k < old.length → Gd (old.getD k z0)) (hn : ∀ k, k < old.length → Gd (next.getD k z0)) :
    (List.zipWith (fun a b => sameSp (a.join b) a) old next).all id = true ↔ LeR next old := by
  rw [List.all_eq_true]
  constructor
  · intro h
    refine ⟨hl.symm, fun k hk => ?_⟩
    have hk' : k < old.length := by omega
    refine (same_iff (ho k hk').1 (hn k hk').1).1 ?_
    have e := getD_zip (fun a b => sameSp (a.join b) a) old next z0 z0 true k hk' hk
    rw [← e, List.getD_eq_getElem?_getD]
    have hk2 : k < (List.zipWith (fun a b => sameSp (a.join b) a) old next).length := by simp; omega
    rw [List.getElem?_eq_getElem hk2]
    exact h _ (List.getElem_mem hk2)
  · intro h x hx
    obtain ⟨k, hk, e⟩ := List.getElem_of_mem hx
    have hk2 : k < old.length := by simp at hk; omega
    have hk3 : k < next.length := by omega
    have e2 := getD_zip (fun a b => sameSp (a.join b) a) old next z0 z0 true k hk2 hk3
    rw [List.getD_eq_getElem?_getD, List.getElem?_eq_getElem hk] at e2
    rw [← e]
    show (List.zipWith _ old next)[k] = true
    rw [show (List.zipWith (fun a b => sameSp (a.join b) a) old next)[k] = _ from e2]
    exact (same_iff (ho k hk2).1 (hn k hk2).1).2 (h.2 k hk3)
/-! ### What stands -/
structure StOk (N R : Nat) (ths : List Int) (s : StD) : Prop where
  li : s.ins.length = N
  lm : s.marked.length = N
  lj : s.joined.length = N
  lc : s.changes.length = N
  row : ∀ i, i < N → (s.changes.getD i []).length = R
  some : ∀ i l, s.ins.getD i none = some l → l.length = R ∧ (∀ k, k < R → Gd (l.getD k z0)) ∧ ∀ k, k < R → (s.changes.getD i []).getD k 0 + phi ths (l.getD k z0) ≤ min (s.joined.getD i 0) 4 + ths.length + 2
  none : ∀ i, s.ins.getD i none = none → s.marked.getD i false = false ∧ s.joined.getD i 0 = 0 ∧ ∀ k, (s.changes.getD i []).getD k 0 = 0
def actAt (R : Nat) (s : StD) (i : Nat) : Nat := (if (s.ins.getD i none).isSome then 1 else 0) + sumN R fun k => (s.changes.getD i []).getD k 0
def act (N R : Nat) (s : StD) : Nat := sumN N (actAt R s)
def marks (N : Nat) (s : StD) : Nat := sumN N fun i => if s.marked.getD i false then 1 else 0
/-- What comes to an instruction. -/
structure Merged (N R : Nat) (s : StD) (to : Nat) (next : List Sp) (s' : StD) : Prop where
  far : ∀ i, i ≠ to → s'.ins.getD i none = s.ins.getD i none ∧ s'.marked.getD i false = s.marked.getD i false
  here : ∃ l', s'.ins.getD to none = some l' ∧ LeR next l'
  grow : ∀ l, s.ins.getD to none = some l → ∃ l', s'.ins.getD to none = some l' ∧ LeR l l'
  still : s' = s ∨ (s'.marked.getD to false = true ∧ act N R s < act N R s')
theorem merge_ok {N R : Nat} {ths : List Int} {s : StD} (h : StOk N R ths s) {to : Nat} (hto : to < N) {next : List Sp} (hn : next.length = R) (hg : ∀ k, k < R → Gd (next.getD k z0)) (ht : ∀ t, t ∈ ths → In64 t) :
    StOk N R ths (mergeD s to next ths) ∧ Merged N R s to next (mergeD s to next ths) := by
  have hset : ∀ {α : Type} (l : List α) (v d : α) (j : Nat), l.length = N → (l.set to v).getD j d = if to = j then v else l.getD j d := fun l v d j hl => by
    rw [getD_set]
    by_cases e : to = j
    · rw [if_pos ⟨e, by omega⟩, if_pos e]
    · rw [if_neg (fun h => e h.1), if_neg e]
  cases ho : s.ins.getD to none with
  | none =>
    have e : mergeD s to next ths = { s with ins := s.ins.set to (some next), marked := s.marked.set to true } := by
      unfold mergeD; rw [ho]
    obtain ⟨n1, n2, n3⟩ := h.none to ho
    rw [e]
    constructor
    · refine ⟨by simpa using h.li, by simpa using h.lm, h.lj, h.lc, h.row, ?_, ?_⟩
      · intro i l hl
        simp only at hl
        rw [hset _ _ _ _ h.li] at hl
        by_cases e2 : to = i
        · subst e2
          rw [if_pos rfl] at hl
          cases hl
          refine ⟨hn, hg, fun k hk => ?_⟩
          simp only
          rw [n3 k]
          have := phi_start ths (hg k hk).1
          omega
        · rw [if_neg e2] at hl
          exact h.some i l hl
      · intro i hi
        simp only at hi ⊢
        rw [hset _ _ _ _ h.li] at hi
        rw [hset _ _ _ _ h.lm]
        by_cases e2 : to = i
        · rw [if_pos e2] at hi; cases hi
        · rw [if_neg e2] at hi
          rw [if_neg e2]
          exact h.none i hi
    · refine ⟨?_, ⟨next, ?_, LeR_refl _⟩, ?_, .inr ⟨?_, ?_⟩⟩
      · intro i hi
        simp only
        rw [hset _ _ _ _ h.li, hset _ _ _ _ h.lm, if_neg (fun e => hi e.symm), if_neg (fun e => hi e.symm)]
        exact ⟨rfl, rfl⟩
      · simp only
        rw [hset _ _ _ _ h.li, if_pos rfl]
      · intro l hl; rw [ho] at hl; cases hl
      · simp only
        rw [hset _ _ _ _ h.lm, if_pos rfl]
      · refine sumN_lt (k := to) ?_ N hto ?_
        · unfold actAt
          simp only
          rw [hset _ _ _ _ h.li, if_pos rfl, ho]
          simp
        · intro i hi
          unfold actAt
          simp only
          rw [hset _ _ _ _ h.li]
          by_cases e2 : to = i
          · subst e2; rw [if_pos rfl, ho]; simp
          · rw [if_neg e2]; exact Nat.le_refl _
  | some old =>
    obtain ⟨o1, o2, o3⟩ := h.some to old ho
    have hol : old.length = next.length := by omega
    have hsr := sameRow_iff hol (fun k hk => o2 k (by omega)) (fun k hk => hg k (by omega))
    cases hs : (List.zipWith (fun a b => sameSp (a.join b) a) old next).all id with
    | true =>
      have e : mergeD s to next ths = s := by
        unfold mergeD; rw [ho]
        simp only
        rw [hs]; rfl
      rw [e]
      refine ⟨h, fun i _ => ⟨rfl, rfl⟩, ⟨old, ho, hsr.1 hs⟩, fun l hl => ⟨l, hl, LeR_refl _⟩, .inl rfl⟩
    | false =>
      have e : mergeD s to next ths = { ins := s.ins.set to (some (List.zipWith (growS (decide (4 < s.joined.getD to 0 + 1)) ths) old next)), marked := s.marked.set to true, joined := s.joined.set to (s.joined.getD to 0 + 1), changes := s.changes.set to (List.zipWith (fun (c : Nat) (ab : Sp × Sp) => if sameSp (ab.1.join ab.2) ab.1 then c else c + 1) (s.changes.getD to []) (old.zip next)) } := by
        unfold mergeD; rw [ho]
        simp only
        rw [hs]; rfl
      have hrow := h.row to hto
      generalize hw : (decide (4 < s.joined.getD to 0 + 1)) = wide at e
      have gk : ∀ k, k < R → (List.zipWith (growS wide ths) old next).getD k z0 = growS wide ths (old.getD k z0) (next.getD k z0) := fun k hk => getD_zip _ _ _ _ _ _ k (by omega) (by omega)
      have ck : ∀ k, k < R → (List.zipWith (fun (c : Nat) (ab : Sp × Sp) => if sameSp (ab.1.join ab.2) ab.1 then c else c + 1) (s.changes.getD to []) (old.zip next)).getD k 0 = if sameSp ((old.getD k z0).join (next.getD k z0)) (old.getD k z0) then (s.changes.getD to []).getD k 0 else (s.changes.getD to []).getD k 0 + 1 := fun k hk => by
        rw [getD_zip _ _ _ 0 (z0, z0) 0 k (by omega) (by simp; omega)]
        have : (old.zip next).getD k (z0, z0) = (old.getD k z0, next.getD k z0) := by
          simp only [List.getD_eq_getElem?_getD]
          rw [List.getElem?_eq_getElem (by simp; omega), List.getElem?_eq_getElem (by omega), List.getElem?_eq_getElem (by omega)]
          simp
        rw [this]
      have hle : LeR old (List.zipWith (growS wide ths) old next) := ⟨by simp; omega, fun k hk => by rw [gk k (by omega)]; exact (grow_le wide ths (o2 k (by omega)) (hg k (by omega)) ht).2.1⟩
      have hln : LeR next (List.zipWith (growS wide ths) old next) := ⟨by simp; omega, fun k hk => by rw [gk k (by omega)]; exact (grow_le wide ths (o2 k (by omega)) (hg k (by omega)) ht).2.2⟩
      have hmore : ∃ k, k < R ∧ sameSp ((old.getD k z0).join (next.getD k z0)) (old.getD k z0) = false := by
        apply Classical.byContradiction
        intro hne
        have : LeR next old := ⟨hol.symm, fun k hk => by
          refine (same_iff (o2 k (by omega)).1 (hg k (by omega)).1).1 ?_
          cases hb : sameSp ((old.getD k z0).join (next.getD k z0)) (old.getD k z0)
          · exact absurd ⟨k, by omega, hb⟩ hne
          · rfl⟩
        rw [hsr.2 this] at hs
        cases hs
      rw [e]
      constructor
      · refine ⟨by simpa using h.li, by simpa using h.lm, by simpa using h.lj, by simpa using h.lc, ?_, ?_, ?_⟩
        · intro i hi
          simp only
          rw [hset _ _ _ _ h.lc]
          by_cases e2 : to = i
          · rw [if_pos e2, List.length_zipWith, List.length_zip, hrow]; omega
          · rw [if_neg e2]; exact h.row i hi
        · intro i l hl
          simp only at hl ⊢
          rw [hset _ _ _ _ h.li] at hl
          rw [hset _ _ _ _ h.lc, hset _ _ _ _ h.lj]
          by_cases e2 : to = i
          · subst e2
            rw [if_pos rfl] at hl ⊢
            rw [if_pos rfl]
            cases hl
            refine ⟨by simp; omega, fun k hk => ?_, fun k hk => ?_⟩
            · rw [gk k hk]
              exact (grow_le wide ths (o2 k hk) (hg k hk) ht).1
            · rw [ck k hk, gk k hk]
              have hb := o3 k hk
              have hsi := same_iff (o2 k hk).1 (hg k hk).1
              by_cases hsm : sameSp ((old.getD k z0).join (next.getD k z0)) (old.getD k z0) = true
              · rw [if_pos hsm, grow_same wide ths (o2 k hk) (hg k hk) (hsi.1 hsm)]
                omega
              · rw [if_neg hsm]
                have hnl : ¬ leS (next.getD k z0) (old.getD k z0) := fun hl => hsm (hsi.2 hl)
                cases wide with
                | false =>
                  have hj : s.joined.getD to 0 < 4 := by
                    have := of_decide_eq_false hw
                    omega
                  have := phi_mono ths (grow_le false ths (o2 k hk) (hg k hk) ht).2.1
                  omega
                | true =>
                  have := phi_wide ths (o2 k hk) (hg k hk) hnl
                  omega
          · rw [if_neg e2] at hl ⊢
            rw [if_neg e2]
            exact h.some i l hl
        · intro i hi
          simp only at hi ⊢
          rw [hset _ _ _ _ h.li] at hi
          rw [hset _ _ _ _ h.lm, hset _ _ _ _ h.lc, hset _ _ _ _ h.lj]
          by_cases e2 : to = i
          · rw [if_pos e2] at hi; cases hi
          · rw [if_neg e2] at hi
            rw [if_neg e2, if_neg e2, if_neg e2]
            exact h.none i hi
      · refine ⟨?_, ⟨_, ?_, hln⟩, ?_, .inr ⟨?_, ?_⟩⟩
        · intro i hi
          simp only
          rw [hset _ _ _ _ h.li, hset _ _ _ _ h.lm, if_neg (fun e => hi e.symm), if_neg (fun e => hi e.symm)]
          exact ⟨rfl, rfl⟩
        · simp only
          rw [hset _ _ _ _ h.li, if_pos rfl]
        · intro l hl
          rw [ho] at hl
          cases hl
          refine ⟨_, ?_, hle⟩
          simp only
          rw [hset _ _ _ _ h.li, if_pos rfl]
        · simp only
          rw [hset _ _ _ _ h.lm, if_pos rfl]
        · have hck : ∀ k, k < R → (s.changes.getD to []).getD k 0 ≤ (List.zipWith (fun (c : Nat) (ab : Sp × Sp) => if sameSp (ab.1.join ab.2) ab.1 then c else c + 1) (s.changes.getD to []) (old.zip next)).getD k 0 := fun k hk => by
            rw [ck k hk]; split <;> omega
          refine sumN_lt (k := to) ?_ N hto ?_
          · unfold actAt
            simp only
            rw [hset _ _ _ _ h.li, hset _ _ _ _ h.lc, if_pos rfl, if_pos rfl, ho]
            obtain ⟨k, hk, hf⟩ := hmore
            have := sumN_lt (k := k) (f := fun k => (s.changes.getD to []).getD k 0) (g := fun k => (List.zipWith (fun (c : Nat) (ab : Sp × Sp) => if sameSp (ab.1.join ab.2) ab.1 then c else c + 1) (s.changes.getD to []) (old.zip next)).getD k 0) (by (try dsimp only); rw [ck k hk, if_neg (by rw [hf]; decide)]; omega) R hk hck
            simp only [Option.isSome_some, if_true]
            omega
          · intro i hi
            unfold actAt
            simp only
            rw [hset _ _ _ _ h.li, hset _ _ _ _ h.lc]
            by_cases e2 : to = i
            · subst e2
              rw [if_pos rfl, if_pos rfl, ho]
              have := sumN_le (f := fun k => (s.changes.getD to []).getD k 0) (g := fun k => (List.zipWith (fun (c : Nat) (ab : Sp × Sp) => if sameSp (ab.1.join ab.2) ab.1 then c else c + 1) (s.changes.getD to []) (old.zip next)).getD k 0) R hck
              simp only [Option.isSome_some, if_true]
              omega
            · rw [if_neg e2, if_neg e2]
              exact Nat.le_refl _
end Go.Proofs.YtddobhneplfddaaDoor
