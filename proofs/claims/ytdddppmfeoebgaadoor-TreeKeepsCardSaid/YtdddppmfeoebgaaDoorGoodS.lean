/-
  Layer 2 (tree): what a statement is like that has a form; how long its text is. In plain Lean.
-/
import Derived.Test.YtdddppmfeoebgaaDoorGood
namespace Go.Proofs.YtdddppmfeoebgaaDoor
open Go.RowKit
set_option linter.unusedSimpArgs false
set_option linter.unusedVariables false
/-- A statement that has a form, at a level. -/
inductive GoodS : Nat → StD → Prop where
  | mk {lv : Nat} {x : StD} (level : lv ≤ 32) (form : formS x = true) (name : x.name.size ≤ 16) (n0 : 0 ≤ x.n) (n1 : x.n ≤ 9223372036854775807)
      (a : cA x.kind = true → GoodE x.a) (b : cB x.kind = true → GoodE x.b)
      (body : ∀ k, k < x.body.length → GoodS (lv + 1) (nthS x.body k)) (els : ∀ k, k < x.els.length → GoodS (lv + 1) (nthS x.els k))
      (cn : ∀ j, j < x.cases.length → In64 (nthC x.cases j).n)
      (cases : ∀ j, j < x.cases.length → ∀ k, k < (nthC x.cases j).body.length → GoodS (lv + 1) (nthS (nthC x.cases j).body k)) : GoodS lv x
theorem metOn_zero {p q : Met} (h : (p.on q).e = 0) : p.e = 0 ∧ q.e = 0 := by
  unfold Met.on at h
  split at h
  · contradiction
  · rename_i k; exact ⟨by simpa using k, h⟩
theorem kidS_zero {l : List StD} {lv : Nat} (h : (chkSs l lv).e = 0) {k : Nat} (hk : k < l.length) : (chkS (nthS l k) lv).e = 0 := by
  have h1 : (chkSs (l.take (k + 1)) lv).e = 0 := by
    by_cases q : (chkSs (l.take (k + 1)) lv).e = 0
    · exact q
    · have := chkSs_stop (l := l) (k := k + 1) q; rw [this] at h; omega
  rw [chkSs_snoc hk] at h1
  exact (metOn_zero h1).2
theorem kidC_zero {l : List CaD} {lv : Nat} (h : (chkCs l lv).e = 0) {k : Nat} (hk : k < l.length) : (chkSs (nthC l k).body lv).e = 0 := by
  have h1 : (chkCs (l.take (k + 1)) lv).e = 0 := by
    by_cases q : (chkCs (l.take (k + 1)) lv).e = 0
    · exact q
    · have := chkCs_stop (l := l) (k := k + 1) q; rw [this] at h; omega
  rw [chkCs_snoc hk] at h1
  exact (metOn_zero h1).2
theorem ownS_zero {x : StD} (h : ownS x = 0) : formS x = true ∧ (cName x.kind = true → nameE x.name = true) ∧ 0 ≤ x.n := by
  unfold ownS at h
  split at h
  · omega
  split at h
  · omega
  split at h
  · omega
  rename_i h1 h2 h3
  refine ⟨by simpa using h1, fun h => ?_, ?_⟩
  · rw [h] at h2; simpa using h2
  · simp only [Bool.or_eq_true, decide_eq_true_eq, not_or] at h3; omega
theorem goodS_all {w : World} {B : Nat} {A : Option Addr} {l : List StD} (h : StsAt w B A l) : ∀ lv, (chkSs l lv).e = 0 → ∀ k, k < l.length → GoodS lv (nthS l k) := by
  induction h with
  | @mk A l hd hc len rows wf ea eb body els clen crow cwf cbody ih1 ih2 ih3 =>
    intro lv hz k hk
    have h0 := kidS_zero hz hk
    rw [chkS_eq] at h0
    obtain ⟨p0, h0⟩ := metOn_zero h0
    obtain ⟨p1, h0⟩ := metOn_zero h0
    obtain ⟨p2, h0⟩ := metOn_zero h0
    obtain ⟨p3, h0⟩ := metOn_zero h0
    obtain ⟨p4, p5⟩ := metOn_zero h0
    simp only at p0 p1 p2
    have hlv : lv ≤ 32 := by
      split at p0
      · omega
      · omega
    rw [if_neg (by omega)] at p0
    obtain ⟨f, n, g⟩ := ownS_zero p0
    refine .mk hlv f ?_ g (by have := (wf k hk).n.2; omega) (fun ha => ?_) (fun hb => ?_) (ih1 k hk (lv + 1) p3) (ih2 k hk (lv + 1) p5) (cwf k hk) (fun j hj => ih3 k hk j hj (lv + 1) (kidC_zero p4 hj))
    · cases hn : cName (nthS l k).kind
      · simp only [formS, hn, Bool.false_or, Bool.and_eq_true, beq_iff_eq] at f
        omega
      · exact nameE_len (n hn)
    · rw [if_pos ha] at p1; exact good_x (wf k hk).a (ea k hk) p1
    · rw [if_pos hb] at p2; exact good_x (wf k hk).b (eb k hk) p2
/-! ### How long -/
theorem lineT_len (n : Nat) (s : List UInt8) : (lineT n s).length = 2 * n + s.length + 1 := by simp [lineT]; omega
theorem stTs_len {d m : Nat} : ∀ {l : List StD}, (∀ k, k < l.length → (stT (nthS l k) d).length ≤ m * cntS (nthS l k)) → (stTs l d).length ≤ m * cntSs l
  | [], _ => by rw [stTs]; simp
  | x :: r, h => by
    have h0 : (stT x d).length ≤ m * cntS x := h 0 (by simp)
    have h1 := stTs_len (l := r) fun k hk => h (k + 1) (by simpa using hk)
    rw [stTs, cntSs, List.length_append, Nat.mul_add]; omega
theorem stT_eq (x : StD) (d : Nat) : stT x d = stT (.mk x.kind x.name x.n x.a x.b x.body x.els x.cases) d := by cases x; rfl
theorem caT_eq (x : CaD) (d : Nat) : caT x d = lineT d ([99, 97, 115, 101, 32] ++ (numD x.n ++ [32, 123])) ++ (stTs x.body (d + 1) ++ lineT d [125]) := by cases x; rw [caT]; rfl
theorem caTs_len {d m : Nat} : ∀ {l : List CaD}, (∀ k, k < l.length → (caT (nthC l k) d).length ≤ m * cntC (nthC l k)) → (caTs l d).length ≤ m * cntCs l
  | [], _ => by rw [caTs]; simp
  | x :: r, h => by
    have h0 : (caT x d).length ≤ m * cntC x := h 0 (by simp)
    have h1 := caTs_len (l := r) fun k hk => h (k + 1) (by simpa using hk)
    rw [caTs, cntCs, List.length_append, Nat.mul_add]; omega
theorem formS_kind {x : StD} (f : formS x = true) : 1 ≤ x.kind ∧ x.kind ≤ 10 := by
  simp only [formS, knownS, Bool.and_eq_true, decide_eq_true_eq] at f
  exact ⟨f.1.1.1.1.1.1.1.1, f.1.1.1.1.1.1.1.2⟩
theorem kind_pos {x : ExD} (g : GoodE x) : x.kind ≠ 0 := by have := (args_of g.form).2; omega
theorem cntZ_good {x : ExD} (g : GoodE x) : cntZ x = cntE x := by
  rw [cntZ, zeroE, show (x.kind == 0) = false by simpa using kind_pos g]; simp
theorem formS_cnt {lv : Nat} {x : StD} (g : GoodS lv x) : (cA x.kind = true → (exT x.a).length ≤ 64 * cntZ x.a) ∧ (cB x.kind = true → (exT x.b).length ≤ 64 * cntZ x.b) := by
  obtain ⟨level, form, name, n0, n1, a, b, body, els, cn, cases⟩ := g
  exact ⟨fun h => by have := good_len (a h); rw [cntZ_good (a h)]; omega, fun h => by have := good_len (b h); rw [cntZ_good (b h)]; omega⟩
theorem goodS_len {lv : Nat} {x : StD} (g : GoodS lv x) : ∀ d, d ≤ 2 * lv → (stT x d).length ≤ 1000 * cntS x := by
  induction g with
  | @mk lv x level form name n0 n1 a b body els cn cases ih1 ih2 ih3 =>
    intro d hd
    have hA := (formS_cnt (.mk level form name n0 n1 a b body els cn cases)).1
    have hB := (formS_cnt (.mk level form name n0 n1 a b body els cn cases)).2
    have hc := cntS_eq x
    have hn : (numD x.n).length ≤ 20 := numD_len ⟨by omega, n1⟩
    have hb : (bytesOf' x.name).length ≤ 16 := name
    have b1 : (stTs x.body (d + 1)).length ≤ 1000 * cntSs x.body := stTs_len fun k hk => ih1 k hk _ (by omega)
    have e1 : (stTs x.els (d + 1)).length ≤ 1000 * cntSs x.els := stTs_len fun k hk => ih2 k hk _ (by omega)
    have e2 : (stTs x.els (d + 2)).length ≤ 1000 * cntSs x.els := stTs_len fun k hk => ih2 k hk _ (by omega)
    have c1 : (caTs x.cases (d + 1)).length ≤ 1000 * cntCs x.cases := caTs_len fun j hj => by
      have h := stTs_len (l := (nthC x.cases j).body) (d := d + 1 + 1) (m := 1000) fun k hk => ih3 j hj k hk _ (by omega)
      have hcn := cntC_eq (nthC x.cases j)
      have hnn := numD_len (cn j hj)
      rw [caT_eq]
      simp only [List.length_append, lineT_len, List.length_cons, List.length_nil]
      omega
    have hk := formS_kind form
    rw [stT_eq, stT]
    rcases (by omega : x.kind = 1 ∨ x.kind = 2 ∨ x.kind = 3 ∨ x.kind = 4 ∨ x.kind = 5 ∨ x.kind = 6 ∨ x.kind = 7 ∨ x.kind = 8 ∨ x.kind = 9 ∨ x.kind = 10) with h | h | h | h | h | h | h | h | h | h
    all_goals
      rw [h] at hA hB ⊢
      have hA := hA
      have hB := hB
      simp only [cA, cB, Int.reduceBEq, Bool.or_false, Bool.false_or, Bool.or_true, Bool.true_or, forall_const, Bool.false_eq_true, if_false, if_true, false_implies] at hA hB ⊢
      try split
      all_goals (simp only [List.length_append, lineT_len, List.length_cons, List.length_nil]; omega)
theorem goodSs_len {lv d : Nat} {l : List StD} (h : ∀ k, k < l.length → GoodS lv (nthS l k)) (hd : d ≤ 2 * lv) : (stTs l d).length ≤ 1000 * cntSs l := stTs_len fun k hk => goodS_len (h k hk) d hd
end Go.Proofs.YtdddppmfeoebgaaDoor
