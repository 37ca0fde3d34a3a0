/-
  Layer 2 (tree): what an expression is like that has a form; how long its text is. In plain Lean.
-/
import Derived.Test.YtdddppmfeoebgaaGreatDoorChkP
import Derived.Test.YtdddppmfeoebgaaGreatDoorKind
import Derived.Lib.ItoaLen
namespace Go.Proofs.YtdddppmfeoebgaaGreatDoor
open Go.RowKit
set_option linter.unusedSimpArgs false
set_option linter.unusedVariables false
/-- An expression that has a form. -/
inductive GoodE : ExD → Prop where
  | mk {x : ExD} (form : formE x = true) (name : x.name.size ≤ 16) (n0 : 0 ≤ x.n) (n1 : x.n ≤ 9223372036854775807) (kids : ∀ k, k < x.args.length → GoodE (nthE x.args k)) : GoodE x
theorem GoodE.form {x : ExD} : GoodE x → formE x = true | .mk h _ _ _ _ => h
theorem GoodE.name {x : ExD} : GoodE x → x.name.size ≤ 16 | .mk _ h _ _ _ => h
theorem GoodE.n0 {x : ExD} : GoodE x → 0 ≤ x.n | .mk _ _ h _ _ => h
theorem GoodE.n1 {x : ExD} : GoodE x → x.n ≤ 9223372036854775807 | .mk _ _ _ h _ => h
theorem GoodE.kids {x : ExD} : GoodE x → ∀ k, k < x.args.length → GoodE (nthE x.args k) | .mk _ _ _ _ h => h
theorem nameB_len {L : List UInt8} (h : nameB L = true) : L.length ≤ 16 := by
  simp only [nameB, Bool.and_eq_true, decide_eq_true_eq] at h
  omega
theorem nameE_len {s : ByteArray} (h : nameE s = true) : s.size ≤ 16 := nameB_len h
theorem own_zero {x : ExD} {lv : Nat} (h : ownE x lv = 0) : lv ≤ 32 ∧ formE x = true ∧ (namedD x.kind = true → nameE x.name = true) ∧ 0 ≤ x.n := by
  unfold ownE at h
  split at h
  · omega
  split at h
  · omega
  split at h
  · omega
  split at h
  · omega
  rename_i h1 h2 h3 h4
  refine ⟨by omega, by simpa using h2, fun h => ?_, by omega⟩
  rw [h] at h3
  simpa using h3
theorem kid_zero {l : List ExD} {lv : Nat} (h : chkEs l lv = 0) {k : Nat} (hk : k < l.length) : chkE (nthE l k) lv = 0 := by
  have h1 : chkEs (l.take (k + 1)) lv = 0 := by
    by_cases q : chkEs (l.take (k + 1)) lv = 0
    · exact q
    · have := chkEs_stop (l := l) (k := k + 1) q; omega
  rw [chkEs_snoc hk, orI] at h1
  split at h1
  · contradiction
  · exact h1
theorem chkE_zero {x : ExD} {lv : Nat} (h : chkE x lv = 0) : ownE x lv = 0 ∧ chkEs x.args (lv + 1) = 0 := by
  rw [chkE_eq, orI] at h
  split at h
  · contradiction
  · rename_i q; exact ⟨by simpa using q, h⟩
theorem good_one {x : ExD} {lv : Nat} (wf : ExWf x) (h : chkE x lv = 0) (kids : ∀ k, k < x.args.length → GoodE (nthE x.args k)) : GoodE x := by
  obtain ⟨_, f, n, g⟩ := own_zero (chkE_zero h).1
  refine .mk f ?_ g (by have := wf.n.2; omega) kids
  cases hn : namedD x.kind
  · simp only [formE, hn, Bool.or_false, Bool.and_eq_true, beq_iff_eq] at f
    omega
  · exact nameE_len (n hn)
theorem good_all {w : World} {B : Nat} {A : Option Addr} {l : List ExD} (h : ExsAt w B A l) : ∀ lv, chkEs l lv = 0 → ∀ k, k < l.length → GoodE (nthE l k) := by
  induction h with
  | mk hd len rows wf kids ih =>
    intro lv hz k hk
    have h0 := kid_zero hz hk
    exact good_one (wf k hk) h0 (ih k hk (lv + 1) (chkE_zero h0).2)
theorem good_x {w : World} {B : Nat} {A : Option Addr} {x : ExD} {lv : Nat} (wf : ExWf x) (h : ExsAt w B A x.args) (hz : chkE x lv = 0) : GoodE x := good_one wf hz (good_all h (lv + 1) (chkE_zero hz).2)
/-! ### How long a text is -/
theorem numD_len {n : Int} (h : In64 n) : (numD n).length ≤ 20 := by
  unfold numD Lib.itoa
  have h1 := h.1
  have h2 := h.2
  have k : ∀ u, u ≤ 9223372036854775808 → (Lib.decDigits u).length ≤ 19 := fun u hu => by
    rw [Lib.decDigits_length]
    rcases Nat.eq_zero_or_pos u with rfl | h1
    · rw [Lib.nDigits_small (by omega)]; omega
    · have := Lib.nDigits_unique
      rcases Nat.lt_or_ge u 10 with q | q
      · rw [Lib.nDigits_small q]; omega
      · by_cases q2 : 10 ^ 18 ≤ u
        · rw [Lib.nDigits_unique 18 u q2 (by omega)]; exact Nat.le_refl _
        · have : ∀ m, u < 10 ^ m → 1 ≤ m → Lib.nDigits u ≤ m := by
            intro m
            induction m with
            | zero => intro _ h; omega
            | succ m ih =>
              intro hm _
              rcases Nat.eq_zero_or_pos m with rfl | hp
              · rw [Lib.nDigits_small (by simpa using hm)]; omega
              · by_cases q3 : u < 10 ^ m
                · have := ih q3 hp; omega
                · rw [Lib.nDigits_unique m u (by omega) hm]; omega
          exact Nat.le_trans (this 18 (by omega) (by omega)) (by omega)
  split
  · rw [List.length_cons]; have := k n.natAbs (by omega); omega
  · have := k n.toNat (by omega); omega
theorem bytes_len' (s : ByteArray) : (bytesOf' s).length = s.size := rfl
theorem parT_len (b : Bool) (t : List UInt8) : (parT b t).length ≤ t.length + 2 := by
  unfold parT; split
  · simp
  · omega
theorem signT_len (k : Int) : (signT k).length ≤ 2 := by
  unfold signT
  split
  · rename_i h
    rcases (by omega : k = 7 ∨ k = 8 ∨ k = 9 ∨ k = 10 ∨ k = 11 ∨ k = 12 ∨ k = 13 ∨ k = 14 ∨ k = 15 ∨ k = 16 ∨ k = 17 ∨ k = 18 ∨ k = 19) with rfl | rfl | rfl | rfl | rfl | rfl | rfl | rfl | rfl | rfl | rfl | rfl | rfl <;> decide
  · simp
def sumT : List (List UInt8) → Nat
  | [] => 0
  | a :: r => a.length + 2 + sumT r
theorem joinT_len : ∀ l : List (List UInt8), (joinT l).length ≤ sumT l
  | [] => by simp [joinT]
  | [a] => by simp [joinT, sumT]
  | a :: b :: r => by
    have := joinT_len (b :: r)
    rw [joinT, sumT]
    simp only [List.length_append, List.length_cons] at *
    omega
theorem exT_eq (x : ExD) : exT x = exT0 x.kind x.n (bytesOf' x.name) x.args (exTs x.args) := by cases x; rw [exT]; rfl
theorem sumT_ex : ∀ (l : List ExD), (∀ k, k < l.length → (exT (nthE l k)).length + 4 ≤ 64 * cntE (nthE l k)) → sumT (exTs l) ≤ 64 * cntEs l
  | [], _ => by rw [exTs]; simp [sumT]
  | x :: r, h => by
    have h0 : (exT x).length + 4 ≤ 64 * cntE x := h 0 (by simp)
    have := sumT_ex r fun k hk => h (k + 1) (by simpa using hk)
    rw [exTs, sumT, cntEs]; omega
theorem cnt_mem : ∀ {l : List ExD} {k : Nat}, k < l.length → cntE (nthE l k) ≤ cntEs l := by
  intro l k h
  have e1 := cntEs_snoc h
  have e2 := cntEs_cut l (k + 1)
  omega
theorem args_of {x : ExD} (f : formE x = true) : (arD x.kind = -1 ∨ (x.args.length : Int) = arD x.kind) ∧ 1 ≤ x.kind ∧ x.kind ≤ 20 := by
  simp only [formE, knownE, Bool.and_eq_true, Bool.or_eq_true, beq_iff_eq, decide_eq_true_eq] at f
  exact ⟨f.1.1.2, f.1.1.1⟩
theorem two_cnt {l : List ExD} (h : l.length = 2) : cntEs l = cntE (nthE l 0) + cntE (nthE l 1) := by
  match l, h with
  | [a, b], _ => simp [cntEs, nthE]
theorem three_cnt {l : List ExD} (h : l.length = 3) : cntEs l = cntE (nthE l 0) + cntE (nthE l 1) + cntE (nthE l 2) := by
  match l, h with
  | [a, b, c], _ => simp [cntEs, nthE]; omega
theorem one_cnt {l : List ExD} (h : l.length = 1) : cntEs l = cntE (nthE l 0) := by
  match l, h with
  | [a], _ => simp [cntEs, nthE]
theorem ar_lit {k : Int} (h : 1 ≤ k ∧ k ≤ 20) : (k = 1 ∨ k = 2) ∧ arD k = 0 ∨ (k = 3 ∨ k = 5 ∨ k = 6) ∧ arD k = 1 ∨ k = 4 ∧ arD k = -1 ∨ k = 20 ∧ arD k = 3 ∨ (7 ≤ k ∧ k ≤ 19) ∧ arD k = 2 := by
  by_cases q : 7 ≤ k ∧ k ≤ 19
  · exact .inr (.inr (.inr (.inr ⟨q, (ar_no ⟨by omega, by omega⟩).1⟩)))
  · rcases (by omega : k = 1 ∨ k = 2 ∨ k = 3 ∨ k = 4 ∨ k = 5 ∨ k = 6 ∨ k = 20) with rfl | rfl | rfl | rfl | rfl | rfl | rfl <;> simp [arD]
theorem good_len {x : ExD} (g : GoodE x) : (exT x).length + 4 ≤ 64 * cntE x := by
  induction g with
  | @mk x form name n0 n1 kids ih =>
    have hs := sumT_ex x.args ih
    have hc := cntE_eq x
    obtain ⟨ha, hk⟩ := args_of form
    have hn : (numD x.n).length ≤ 20 := numD_len ⟨by omega, n1⟩
    have hb : (bytesOf' x.name).length ≤ 16 := name
    have hsg := signT_len x.kind
    rw [exT_eq, exT0]
    have part : ∀ (k : Nat) (r : Int), k < x.args.length → (argT x.args (exTs x.args) k r).length ≤ (exT (nthE x.args k)).length + 2 := fun k r h => by
      unfold argT; rw [exTs_get h]; exact parT_len _ _
    have hj := joinT_len (exTs x.args)
    rcases ar_lit hk with ⟨h | h, e⟩ | ⟨h | h | h, e⟩ | ⟨h, e⟩ | ⟨h, e⟩ | ⟨h, e⟩
    · rw [h]; simp only [beq_self_eq_true, if_true]; omega
    · rw [h]; simp; omega
    all_goals
      rw [e] at ha
    · have hl : x.args.length = 1 := by omega
      have i0 := ih 0 (by omega)
      have c := one_cnt hl
      rw [h, exTs_get (by omega)]; simp; omega
    · have hl : x.args.length = 1 := by omega
      have i0 := ih 0 (by omega)
      have c := one_cnt hl
      have p := part 0 8 (by omega)
      rw [h]; simp; omega
    · have hl : x.args.length = 1 := by omega
      have i0 := ih 0 (by omega)
      have c := one_cnt hl
      have p := part 0 8 (by omega)
      rw [h]; simp; omega
    · rw [h]; simp; omega
    · have hl : x.args.length = 3 := by omega
      have i0 := ih 0 (by omega)
      have i1 := ih 1 (by omega)
      have i2 := ih 2 (by omega)
      have c := three_cnt hl
      have p := part 0 2 (by omega)
      rw [h, exTs_get (k := 1) (by omega), exTs_get (k := 2) (by omega)]; simp; omega
    · have hl : x.args.length = 2 := by omega
      have i0 := ih 0 (by omega)
      have i1 := ih 1 (by omega)
      have c := two_cnt hl
      have p := part 0 (rankD x.kind) (by omega)
      have q := part 1 (rankD x.kind + 1) (by omega)
      rw [show (x.kind == 1) = false by simp; omega, show (x.kind == 2) = false by simp; omega, show (x.kind == 3) = false by simp; omega, show (x.kind == 4) = false by simp; omega, show (x.kind == 5) = false by simp; omega, show (x.kind == 6) = false by simp; omega, show (x.kind == 20) = false by simp; omega]
      simp; omega
end Go.Proofs.YtdddppmfeoebgaaGreatDoor

/-
  Layer 2 (tree): what a statement is like that has a form; how long its text is. In plain Lean.
-/
namespace Go.Proofs.YtdddppmfeoebgaaGreatDoor
open Go.RowKit
set_option linter.unusedSimpArgs false
set_option linter.unusedVariables false
/-- A statement that has a form, at a level. -/
inductive GoodS : Nat → StD → Prop where
  | mk {lv : Nat} {x : StD} (level : lv ≤ 32) (form : formS x = true) (name : x.name.size ≤ 16) (n0 : 0 ≤ x.n) (n1 : x.n ≤ 9223372036854775807)
      (a : cA x.kind = true → GoodE x.a) (b : cB x.kind = true → GoodE x.b)
      (body : ∀ k, k < x.body.length → GoodS (lv + 1) (nthS x.body k)) (els : ∀ k, k < x.els.length → GoodS (lv + 1) (nthS x.els k))
      (cn : ∀ j, j < x.cases.length → In64 (nthC x.cases j).n)
      (cases : ∀ j, j < x.cases.length → ∀ k, k < (nthC x.cases j).body.length → GoodS (lv + 1) (nthS (nthC x.cases j).body k)) : GoodS lv x
theorem metOn_zero {p q : Met} (h : (p.on q).e = 0) : p.e = 0 ∧ q.e = 0 := by
  unfold Met.on at h
  split at h
  · contradiction
  · rename_i k; exact ⟨by simpa using k, h⟩
theorem kidS_zero {l : List StD} {lv : Nat} (h : (chkSs l lv).e = 0) {k : Nat} (hk : k < l.length) : (chkS (nthS l k) lv).e = 0 := by
  have h1 : (chkSs (l.take (k + 1)) lv).e = 0 := by
    by_cases q : (chkSs (l.take (k + 1)) lv).e = 0
    · exact q
    · have := chkSs_stop (l := l) (k := k + 1) q; rw [this] at h; omega
  rw [chkSs_snoc hk] at h1
  exact (metOn_zero h1).2
theorem kidC_zero {l : List CaD} {lv : Nat} (h : (chkCs l lv).e = 0) {k : Nat} (hk : k < l.length) : (chkSs (nthC l k).body lv).e = 0 := by
  have h1 : (chkCs (l.take (k + 1)) lv).e = 0 := by
    by_cases q : (chkCs (l.take (k + 1)) lv).e = 0
    · exact q
    · have := chkCs_stop (l := l) (k := k + 1) q; rw [this] at h; omega
  rw [chkCs_snoc hk] at h1
  exact (metOn_zero h1).2
theorem ownS_zero {x : StD} (h : ownS x = 0) : formS x = true ∧ (cName x.kind = true → nameE x.name = true) ∧ 0 ≤ x.n := by
  unfold ownS at h
  split at h
  · omega
  split at h
  · omega
  split at h
  · omega
  rename_i h1 h2 h3
  refine ⟨by simpa using h1, fun h => ?_, ?_⟩
  · rw [h] at h2; simpa using h2
  · simp only [Bool.or_eq_true, decide_eq_true_eq, not_or] at h3; omega
theorem goodS_all {w : World} {B : Nat} {A : Option Addr} {l : List StD} (h : StsAt w B A l) : ∀ lv, (chkSs l lv).e = 0 → ∀ k, k < l.length → GoodS lv (nthS l k) := by
  induction h with
  | @mk A l hd hc len rows wf ea eb body els clen crow cwf cbody ih1 ih2 ih3 =>
    intro lv hz k hk
    have h0 := kidS_zero hz hk
    rw [chkS_eq] at h0
    obtain ⟨p0, h0⟩ := metOn_zero h0
    obtain ⟨p1, h0⟩ := metOn_zero h0
    obtain ⟨p2, h0⟩ := metOn_zero h0
    obtain ⟨p3, h0⟩ := metOn_zero h0
    obtain ⟨p4, p5⟩ := metOn_zero h0
    simp only at p0 p1 p2
    have hlv : lv ≤ 32 := by
      split at p0
      · omega
      · omega
    rw [if_neg (by omega)] at p0
    obtain ⟨f, n, g⟩ := ownS_zero p0
    refine .mk hlv f ?_ g (by have := (wf k hk).n.2; omega) (fun ha => ?_) (fun hb => ?_) (ih1 k hk (lv + 1) p3) (ih2 k hk (lv + 1) p5) (cwf k hk) (fun j hj => ih3 k hk j hj (lv + 1) (kidC_zero p4 hj))
    · cases hn : cName (nthS l k).kind
      · simp only [formS, hn, Bool.false_or, Bool.and_eq_true, beq_iff_eq] at f
        omega
      · exact nameE_len (n hn)
    · rw [if_pos ha] at p1; exact good_x (wf k hk).a (ea k hk) p1
    · rw [if_pos hb] at p2; exact good_x (wf k hk).b (eb k hk) p2
/-! ### How long -/
theorem lineT_len (n : Nat) (s : List UInt8) : (lineT n s).length = 2 * n + s.length + 1 := by simp [lineT]; omega
theorem stTs_len {d m : Nat} : ∀ {l : List StD}, (∀ k, k < l.length → (stT (nthS l k) d).length ≤ m * cntS (nthS l k)) → (stTs l d).length ≤ m * cntSs l
  | [], _ => by rw [stTs]; simp
  | x :: r, h => by
    have h0 : (stT x d).length ≤ m * cntS x := h 0 (by simp)
    have h1 := stTs_len (l := r) fun k hk => h (k + 1) (by simpa using hk)
    rw [stTs, cntSs, List.length_append, Nat.mul_add]; omega
theorem stT_eq (x : StD) (d : Nat) : stT x d = stT (.mk x.kind x.name x.n x.a x.b x.body x.els x.cases) d := by cases x; rfl
theorem caT_eq (x : CaD) (d : Nat) : caT x d = lineT d ([99, 97, 115, 101, 32] ++ (numD x.n ++ [32, 123])) ++ (stTs x.body (d + 1) ++ lineT d [125]) := by cases x; rw [caT]; rfl
theorem caTs_len {d m : Nat} : ∀ {l : List CaD}, (∀ k, k < l.length → (caT (nthC l k) d).length ≤ m * cntC (nthC l k)) → (caTs l d).length ≤ m * cntCs l
  | [], _ => by rw [caTs]; simp
  | x :: r, h => by
    have h0 : (caT x d).length ≤ m * cntC x := h 0 (by simp)
    have h1 := caTs_len (l := r) fun k hk => h (k + 1) (by simpa using hk)
    rw [caTs, cntCs, List.length_append, Nat.mul_add]; omega
theorem formS_kind {x : StD} (f : formS x = true) : 1 ≤ x.kind ∧ x.kind ≤ 10 := by
  simp only [formS, knownS, Bool.and_eq_true, decide_eq_true_eq] at f
  exact ⟨f.1.1.1.1.1.1.1.1, f.1.1.1.1.1.1.1.2⟩
theorem kind_pos {x : ExD} (g : GoodE x) : x.kind ≠ 0 := by have := (args_of g.form).2; omega
theorem cntZ_good {x : ExD} (g : GoodE x) : cntZ x = cntE x := by
  rw [cntZ, zeroE, show (x.kind == 0) = false by simpa using kind_pos g]; simp
theorem formS_cnt {lv : Nat} {x : StD} (g : GoodS lv x) : (cA x.kind = true → (exT x.a).length ≤ 64 * cntZ x.a) ∧ (cB x.kind = true → (exT x.b).length ≤ 64 * cntZ x.b) := by
  obtain ⟨level, form, name, n0, n1, a, b, body, els, cn, cases⟩ := g
  exact ⟨fun h => by have := good_len (a h); rw [cntZ_good (a h)]; omega, fun h => by have := good_len (b h); rw [cntZ_good (b h)]; omega⟩
theorem goodS_len {lv : Nat} {x : StD} (g : GoodS lv x) : ∀ d, d ≤ 2 * lv → (stT x d).length ≤ 1000 * cntS x := by
  induction g with
  | @mk lv x level form name n0 n1 a b body els cn cases ih1 ih2 ih3 =>
    intro d hd
    have hA := (formS_cnt (.mk level form name n0 n1 a b body els cn cases)).1
    have hB := (formS_cnt (.mk level form name n0 n1 a b body els cn cases)).2
    have hc := cntS_eq x
    have hn : (numD x.n).length ≤ 20 := numD_len ⟨by omega, n1⟩
    have hb : (bytesOf' x.name).length ≤ 16 := name
    have b1 : (stTs x.body (d + 1)).length ≤ 1000 * cntSs x.body := stTs_len fun k hk => ih1 k hk _ (by omega)
    have e1 : (stTs x.els (d + 1)).length ≤ 1000 * cntSs x.els := stTs_len fun k hk => ih2 k hk _ (by omega)
    have e2 : (stTs x.els (d + 2)).length ≤ 1000 * cntSs x.els := stTs_len fun k hk => ih2 k hk _ (by omega)
    have c1 : (caTs x.cases (d + 1)).length ≤ 1000 * cntCs x.cases := caTs_len fun j hj => by
      have h := stTs_len (l := (nthC x.cases j).body) (d := d + 1 + 1) (m := 1000) fun k hk => ih3 j hj k hk _ (by omega)
      have hcn := cntC_eq (nthC x.cases j)
      have hnn := numD_len (cn j hj)
      rw [caT_eq]
      simp only [List.length_append, lineT_len, List.length_cons, List.length_nil]
      omega
    have hk := formS_kind form
    rw [stT_eq, stT]
    rcases (by omega : x.kind = 1 ∨ x.kind = 2 ∨ x.kind = 3 ∨ x.kind = 4 ∨ x.kind = 5 ∨ x.kind = 6 ∨ x.kind = 7 ∨ x.kind = 8 ∨ x.kind = 9 ∨ x.kind = 10) with h | h | h | h | h | h | h | h | h | h
    all_goals
      rw [h] at hA hB ⊢
      have hA := hA
      have hB := hB
      simp only [cA, cB, Int.reduceBEq, Bool.or_false, Bool.false_or, Bool.or_true, Bool.true_or, forall_const, Bool.false_eq_true, if_false, if_true, false_implies] at hA hB ⊢
      try split
      all_goals (simp only [List.length_append, lineT_len, List.length_cons, List.length_nil]; omega)
theorem goodSs_len {lv d : Nat} {l : List StD} (h : ∀ k, k < l.length → GoodS lv (nthS l k)) (hd : d ≤ 2 * lv) : (stTs l d).length ≤ 1000 * cntSs l := stTs_len fun k hk => goodS_len (h k hk) d hd
end Go.Proofs.YtdddppmfeoebgaaGreatDoor

/-
  Layer 2 (tree): what a program is like that has a form; how long its text is. In plain Lean.
-/
namespace Go.Proofs.YtdddppmfeoebgaaGreatDoor
open Go.RowKit
set_option linter.unusedSimpArgs false
set_option linter.unusedVariables false
structure GoodF (f : FnD) : Prop where
  name : f.name.size ≤ 16
  few : f.params.length ≤ 8
  pname : ∀ k, k < f.params.length → (nthP f.params k).name.size ≤ 16
  pnum : ∀ k, k < f.params.length → In64 (nthP f.params k).lo ∧ In64 (nthP f.params k).hi
  body : ∀ k, k < f.body.length → GoodS 1 (nthS f.body k)
structure GoodP (p : PrD) : Prop where
  widen : p.widen.length ≤ 16
  wnum : ∀ k, k < p.widen.length → In64 (p.widen.getD k 0)
  funcs : p.funcs.length ≤ 32
  cnt : cntFs p.funcs ≤ 4096
  each : ∀ k, k < p.funcs.length → GoodF (nthF p.funcs k)
theorem pars_zero : ∀ {l : List PaD}, pars l = 0 → ∀ k, k < l.length → (nthP l k).name.size ≤ 16
  | [], _, k, hk => by simp at hk
  | x :: r, h, 0, hk => by
    rw [pars] at h
    split at h
    · omega
    · rename_i q; exact nameE_len (s := x.name) (by simpa using q)
  | x :: r, h, k + 1, hk => by
    rw [pars] at h
    split at h
    · omega
    split at h
    · omega
    · exact pars_zero (l := r) h k (by simpa using hk)
theorem face_zero {f : FnD} (h : faceD f = 0) : f.name.size ≤ 16 ∧ f.params.length ≤ 8 ∧ ∀ k, k < f.params.length → (nthP f.params k).name.size ≤ 16 := by
  unfold faceD at h
  split at h
  · omega
  split at h
  · omega
  · rename_i q r
    exact ⟨nameE_len (by simpa using q), by omega, pars_zero h⟩
theorem fnsD_zero : ∀ {l : List FnD} {i : Nat}, (fnsD l i).e = 0 → ∀ k, k < l.length → faceD (nthF l k) = 0 ∧ (chkSs (nthF l k).body 1).e = 0
  | [], _, _, k, hk => by simp at hk
  | f :: r, i, h, k, hk => by
    rw [fnsD] at h
    split at h
    · contradiction
    split at h
    · contradiction
    · rename_i q1 q2
      cases k with
      | zero => exact ⟨show faceD f = 0 by simpa using q1, show (chkSs f.body 1).e = 0 by simpa using q2⟩
      | succ k => exact fnsD_zero (l := r) h k (by simpa using hk)
theorem goodP_of {W : World} {B : Nat} {p : PrD} {wa fa : Option Addr} (o : PrOk W B p wa fa) (h : (checkD p).e = 0) : GoodP p := by
  unfold checkD at h
  split at h
  · contradiction
  rename_i hh
  have hh : headD p = 0 := by simpa using hh
  unfold headD at hh
  split at hh
  · omega
  split at hh
  · omega
  split at hh
  · omega
  split at hh
  · omega
  rename_i h1 h2 h3 h4
  obtain @⟨hd, len, rows, each⟩ := o.funcs
  refine ⟨by omega, o.wwf, by omega, by omega, fun k hk => ?_⟩
  obtain ⟨e1, e2⟩ := fnsD_zero h k hk
  obtain ⟨a, b, c⟩ := face_zero e1
  exact ⟨a, b, c, fun j hj => ((each k hk).pwf j hj).2, goodS_all (each k hk).body 1 e2⟩
theorem paT_len {x : PaD} (hn : x.name.size ≤ 16) (h1 : In64 x.lo) (h2 : In64 x.hi) : (paT x).length ≤ 62 := by
  have a := numD_len h1
  have b := numD_len h2
  have c : (bytesOf' x.name).length ≤ 16 := hn
  simp only [paT, List.length_append, List.length_cons, List.length_nil]; omega
theorem sumT_map {α : Type} (z : α) (f : α → List UInt8) (m : Nat) : ∀ {l : List α}, (∀ k, k < l.length → (f (l.getD k z)).length ≤ m) → sumT (l.map f) ≤ (m + 2) * l.length
  | [], _ => by simp [sumT]
  | x :: r, h => by
    have h0 : (f x).length ≤ m := h 0 (by simp)
    have h1 := sumT_map z f m (l := r) fun k hk => h (k + 1) (by simpa using hk)
    rw [List.map_cons, sumT, List.length_cons, Nat.mul_add]; omega
theorem pasT_len {f : FnD} (g : GoodF f) : sumT (f.params.map paT) ≤ 512 := by
  have h := sumT_map (⟨.empty, 0, 0⟩ : PaD) paT 62 (l := f.params) fun k hk => paT_len (g.pname k hk) (g.pnum k hk).1 (g.pnum k hk).2
  have := g.few
  omega
theorem fnT_len {f : FnD} (g : GoodF f) : (fnT f).length ≤ 600 + 1000 * cntSs f.body := by
  have h1 := pasT_len g
  have h2 := joinT_len (f.params.map paT)
  have h3 := goodSs_len (d := 1) g.body (by omega)
  have h4 : (bytesOf' f.name).length ≤ 16 := g.name
  simp only [fnT, List.length_append, lineT_len, List.length_cons, List.length_nil]; omega
theorem fnTs_len : ∀ {l : List FnD}, (∀ k, k < l.length → GoodF (nthF l k)) → (fnTs l).length ≤ 600 * l.length + 1000 * cntFs l
  | [], _ => by rw [fnTs]; simp
  | f :: r, h => by
    have h0 := fnT_len (h 0 (by simp))
    have h1 := fnTs_len (l := r) fun k hk => h (k + 1) (by simpa using hk)
    have e : nthF (f :: r) 0 = f := rfl
    rw [e] at h0
    rw [fnTs, cntFs, List.length_append, List.length_cons]; omega
theorem widsT_len {p : PrD} (g : GoodP p) : sumT (p.widen.map numD) ≤ 400 := by
  have h := sumT_map (0 : Int) numD 20 (l := p.widen) fun k hk => numD_len (g.wnum k hk)
  have := g.widen
  omega
theorem widT_len {p : PrD} (g : GoodP p) : (widT p.widen).length ≤ 500 := by
  have h1 := widsT_len g
  have h2 := joinT_len (p.widen.map numD)
  unfold widT
  split
  · simp
  · simp only [List.length_append, lineT_len, List.length_cons, List.length_nil]; omega
theorem prT_len {p : PrD} (g : GoodP p) : (prT p).length ≤ 5000000 := by
  have h1 := widT_len g
  have h2 := fnTs_len g.each
  have h3 := g.cnt
  have h4 := g.funcs
  rw [prT, List.length_append]; omega
theorem fnTs_cutG (l : List FnD) (k : Nat) : fnTs l = fnTs (l.take k) ++ fnTs (l.drop k) := fold_cut (op := (· ++ ·)) (e := []) (f := fnTs) (g := fnT) List.nil_append List.append_assoc (by rw [fnTs]) (fun x r => by rw [fnTs]) _ _
end Go.Proofs.YtdddppmfeoebgaaGreatDoor
