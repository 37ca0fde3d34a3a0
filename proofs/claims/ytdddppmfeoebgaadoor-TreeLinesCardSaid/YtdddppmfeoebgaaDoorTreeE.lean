/-
  Layer 2 (tree), in plain Lean: a text's lines: how many, how deep, each ended.
-/
import Derived.Test.YtdddppmfeoebgaaDoorTreeC
namespace Go.Proofs.YtdddppmfeoebgaaDoor
open Go.RowKit
set_option linter.unusedSimpArgs false
set_option linter.unusedVariables false
def flat : List (Nat × List UInt8) → List UInt8
  | [] => []
  | (d, s) :: r => lineT d s ++ flat r
def dn (s : List UInt8) : Nat := if s.getD 0 0 = 125 then 1 else 0
def up (s : List UInt8) : Nat := if s.getLast? = some 123 then 1 else 0
/-- How deep it is behind lines; none: a line lies wrongly. -/
def bal : Nat → List (Nat × List UInt8) → Option Nat
  | n, [] => some n
  | n, (d, s) :: r => if dn s ≤ n ∧ d = n - dn s then bal (n - dn s + up s) r else none
structure Good (s : List UInt8) : Prop where
  ne : s ≠ []
  nl : ¬ (10 : UInt8) ∈ s
  bl : s.getD 0 0 ≠ 32
/-- A text of so many good lines, from a depth to a depth. -/
def Lin (t : List UInt8) (d d' n : Nat) : Prop := ∃ ls, t = flat ls ∧ bal d ls = some d' ∧ (∀ p, p ∈ ls → Good p.2) ∧ ls.length = n
theorem flat_app : ∀ a b, flat (a ++ b) = flat a ++ flat b
  | [], b => rfl
  | (d, s) :: r, b => by rw [List.cons_append, flat, flat, flat_app r b, List.append_assoc]
theorem bal_app : ∀ (a b : List (Nat × List UInt8)) (n m : Nat), bal n a = some m → bal n (a ++ b) = bal m b
  | [], b, n, m, h => by rw [bal] at h; cases h; rfl
  | (d, s) :: r, b, n, m, h => by
    rw [bal] at h
    rw [List.cons_append, bal]
    split at h
    · rw [if_pos (by assumption)]; exact bal_app r b _ m h
    · cases h
theorem Lin.nil (d : Nat) : Lin [] d d 0 := ⟨[], rfl, rfl, fun _ h => by simp at h, rfl⟩
theorem Lin.app {t t' : List UInt8} {a b c n m : Nat} (h1 : Lin t a b n) (h2 : Lin t' b c m) : Lin (t ++ t') a c (n + m) := by
  obtain ⟨l1, rfl, b1, g1, rfl⟩ := h1
  obtain ⟨l2, rfl, b2, g2, rfl⟩ := h2
  exact ⟨l1 ++ l2, (flat_app l1 l2).symm, by rw [bal_app l1 l2 _ _ b1, b2], fun p hp => (List.mem_append.1 hp).elim (g1 p) (g2 p), by simp⟩
theorem Lin.one {s : List UInt8} (d n m : Nat) (g : Good s) (h0 : dn s ≤ n) (h1 : d = n - dn s) (h2 : m = n - dn s + up s) : Lin (lineT d s) n m 1 :=
  ⟨[(d, s)], by simp [flat], by rw [bal, if_pos ⟨h0, h1⟩, bal, h2], fun p hp => by simp at hp; subst hp; exact g, rfl⟩
theorem Lin.cast {t : List UInt8} {a b n m : Nat} (h : Lin t a b n) (e : n = m) : Lin t a b m := e ▸ h
/-! ### What names and expressions have not -/
theorem row_all {p : UInt8 → Bool} {L : List UInt8} (h : rowD p L 0 = L.length) : ∀ c, c ∈ L → p c = true := by
  rw [rowD, List.drop_zero, Nat.zero_add] at h
  have h1 := List.takeWhile_prefix (l := L) p
  have h2 := h1.eq_of_length h
  intro c hc
  rw [← h2] at hc
  have := List.all_takeWhile (l := L) (p := p)
  exact List.all_eq_true.1 this c hc
theorem name_good {s : ByteArray} (h : nameE s = true) : (∀ c, c ∈ bytesOf' s → alnumB c = true) ∧ letterB ((bytesOf' s).getD 0 0) = true ∧ bytesOf' s ≠ [] := by
  rw [nameE, nameB] at h
  simp only [Bool.and_eq_true, Bool.not_eq_true', beq_iff_eq, beq_eq_false_iff_ne, ne_eq, List.length_eq_zero_iff] at h
  exact ⟨row_all h.1.2, h.1.1.1.2, h.1.1.1.1⟩
theorem name_nl {s : ByteArray} (h : nameE s = true) : ¬ (10 : UInt8) ∈ bytesOf' s := fun c => absurd ((name_good h).1 _ c) (by decide)
theorem dec_nl (u : Nat) : ¬ (10 : UInt8) ∈ Lib.decDigits u := by
  induction u using Nat.strongRecOn with
  | _ u ih =>
    have dig : ∀ k, k < 10 → ¬ (10 : UInt8) = UInt8.ofNat (48 + k) := by decide
    rw [Lib.decDigits]
    split
    · intro h; exact dig u (by assumption) (by simpa using h)
    · intro h
      rcases List.mem_append.1 h with h | h
      · exact ih (u / 10) (by omega) h
      · exact dig (u % 10) (by omega) (by simpa using h)
theorem num_nl (n : Int) : ¬ (10 : UInt8) ∈ numD n := by
  rw [numD, Lib.itoa]
  split
  · intro h
    rcases List.mem_cons.1 h with h | h
    · exact absurd h (by decide)
    · exact dec_nl _ h
  · exact dec_nl _
theorem par_nl {b : Bool} {t : List UInt8} (h : ¬ (10 : UInt8) ∈ t) : ¬ (10 : UInt8) ∈ parT b t := by
  unfold parT
  split
  · simp [h]
  · exact h
theorem get_nl {t : List (List UInt8)} (h : ∀ x, x ∈ t → ¬ (10 : UInt8) ∈ x) (k : Nat) : ¬ (10 : UInt8) ∈ t.getD k [] := by
  rcases Nat.lt_or_ge k t.length with hk | hk
  · rw [List.getD_eq_getElem?_getD, List.getElem?_eq_getElem hk]; exact h _ (List.getElem_mem hk)
  · rw [List.getD_eq_getElem?_getD, List.getElem?_eq_none hk]; simp
theorem join_nl : ∀ {t : List (List UInt8)}, (∀ x, x ∈ t → ¬ (10 : UInt8) ∈ x) → ¬ (10 : UInt8) ∈ joinT t
  | [], _ => by simp [joinT]
  | [a], h => by rw [joinT]; exact h a (by simp)
  | a :: b :: r, h => by
    have h1 := join_nl (t := b :: r) fun x hx => h x (List.mem_cons_of_mem _ hx)
    have h2 := h a (by simp)
    rw [joinT]
    simp [h1, h2]
theorem sign_nl (k : Int) : ¬ (10 : UInt8) ∈ signT k := by
  unfold signT
  split
  · exact get_nl (by decide) _
  · simp
theorem chkE_ok {x : ExD} {lv : Nat} (h : chkE x lv = 0) : ownE x lv = 0 ∧ chkEs x.args (lv + 1) = 0 := by
  rw [chkE_eq] at h
  exact orI_zero.1 h
theorem ownE_ok {x : ExD} {lv : Nat} (h : ownE x lv = 0) : lv ≤ 32 ∧ formE x = true ∧ (namedD x.kind = true → nameE x.name = true) ∧ 0 ≤ x.n := by
  unfold ownE at h
  repeat' split at h
  all_goals first | (exact absurd h (by decide)) | skip
  rename_i h1 h2 h3 h4
  refine ⟨by omega, by simpa using h2, fun hn => ?_, by omega⟩
  rw [hn] at h3
  simpa using h3
mutual
theorem exT_nl : ∀ (x : ExD) (lv : Nat), chkE x lv = 0 → ¬ (10 : UInt8) ∈ exT x
  | .mk k n s l, lv, h => by
    obtain ⟨h1, h2⟩ := chkE_ok h
    have hs := exTs_nl l (lv + 1) h2
    obtain ⟨_, _, hn, _⟩ := ownE_ok h1
    have ha : ∀ j r, ¬ (10 : UInt8) ∈ argT l (exTs l) j r := fun j r => par_nl (get_nl hs j)
    have hg := get_nl hs
    simp only [List.getD_eq_getElem?_getD] at hg
    have hj := join_nl hs
    rw [exT, exT0]
    repeat' split
    · exact num_nl n
    · rename_i h2; exact name_nl (hn (by simp only [ExD.kind, namedD]; simp [h2]))
    · rename_i h2; have := name_nl (hn (by simp only [ExD.kind, namedD]; simp [h2])); simp only [ExD.name] at this; simp [this, hg]
    · rename_i h2; have := name_nl (hn (by simp only [ExD.kind, namedD]; simp [h2])); simp only [ExD.name] at this; simp [this, hj]
    · simp [ha]
    · simp [ha]
    · simp [ha, hg]
    · simp [ha, sign_nl]
theorem exTs_nl : ∀ (l : List ExD) (lv : Nat), chkEs l lv = 0 → ∀ t, t ∈ exTs l → ¬ (10 : UInt8) ∈ t
  | [], _, _, t, ht => by rw [exTs] at ht; simp at ht
  | x :: r, lv, h, t, ht => by
    rw [chkEs] at h
    obtain ⟨h1, h2⟩ := orI_zero.1 h
    rw [exTs] at ht
    rcases List.mem_cons.1 ht with rfl | ht
    · exact exT_nl x lv h1
    · exact exTs_nl r lv h2 t ht
end
/-! ### Statements -/
mutual
/-- How many lines statements have. -/
def linS : StD → Nat
  | .mk k _ _ _ _ body els cases => if k == 5 then 2 + linSs body + linSs els + (if els.length = 0 then 0 else 1) else if k == 7 then 2 + linSs body else if k == 6 then 2 + linCs cases + (if els.length = 0 then 0 else 2 + linSs els) else 1
def linC : CaD → Nat
  | .mk _ body => 2 + linSs body
def linSs : List StD → Nat
  | [] => 0
  | x :: r => linS x + linSs r
def linCs : List CaD → Nat
  | [] => 0
  | x :: r => linC x + linCs r
end
theorem good_of {a : UInt8} {s : List UInt8} (h1 : a ≠ 32) (h2 : a ≠ 10) (h3 : ¬ (10 : UInt8) ∈ s) : Good (a :: s) := ⟨by simp, by simp [h3, Ne.symm h2], by simpa using h1⟩
theorem good_name {s : ByteArray} {t : List UInt8} (h : nameE s = true) (h3 : ¬ (10 : UInt8) ∈ t) : Good (bytesOf' s ++ t) ∧ dn (bytesOf' s ++ t) = 0 := by
  obtain ⟨h1, h2, h4⟩ := name_good h
  have h5 := name_nl h
  cases e : bytesOf' s with
  | nil => exact absurd e h4
  | cons a r =>
    rw [e] at h2 h5
    simp only [List.getD_cons_zero] at h2
    refine ⟨⟨by simp, ?_, ?_⟩, ?_⟩
    · rw [List.mem_append]; exact fun c => c.elim h5 h3
    · simp only [List.cons_append, List.getD_cons_zero]; intro c; subst c; exact absurd h2 (by decide)
    · simp only [dn, List.cons_append, List.getD_cons_zero]; rw [if_neg]; intro c; subst c; exact absurd h2 (by decide)
theorem chkS_ok {x : StD} {lv : Nat} (h : (chkS x lv).e = 0) : ownS x = 0 ∧ (cA x.kind = true → chkE x.a (lv + 1) = 0) ∧ (cB x.kind = true → chkE x.b (lv + 1) = 0) ∧ (chkSs x.body (lv + 1)).e = 0 ∧ (chkCs x.cases (lv + 1)).e = 0 ∧ (chkSs x.els (lv + 1)).e = 0 := by
  rw [chkS_eq] at h
  simp only [Met.on_e, orI_zero] at h
  obtain ⟨h1, h2, h3, h4, h5, h6⟩ := h
  refine ⟨?_, fun c => by rw [if_pos c] at h2; exact h2, fun c => by rw [if_pos c] at h3; exact h3, h4, h5, h6⟩
  split at h1
  · exact absurd h1 (by decide)
  · exact h1
theorem ownS_ok {x : StD} (h : ownS x = 0) : formS x = true ∧ (cName x.kind = true → nameE x.name = true) ∧ 0 ≤ x.n ∧ lowestD x.cases = false ∧ (x.kind = 10 → x.a.kind = 4) := by
  unfold ownS at h
  repeat' split at h
  all_goals first | (exact absurd h (by decide)) | skip
  rename_i h1 h2 h3 h4
  simp only [Bool.or_eq_true, decide_eq_true_eq, not_or, Bool.not_eq_true] at h3
  refine ⟨by simpa using h1, fun hn => ?_, by omega, h3.2, fun hk => ?_⟩
  · rw [hn] at h2; simpa using h2
  · rw [hk] at h4; simpa using h4
theorem call_head {a : ExD} (h : a.kind = 4) : ∃ t, exT a = bytesOf' a.name ++ t ∧ ∀ c, c ∈ t → c ∈ exT a := by
  cases a with
  | mk k n s l =>
    obtain rfl : k = 4 := h
    exact ⟨40 :: (joinT (exTs l) ++ [41]), by rw [exT, exT0]; rfl, fun c hc => by rw [exT, exT0]; exact List.mem_append.2 (.inr hc)⟩
theorem close_lin (d : Nat) : Lin (lineT d [125]) (d + 1) d 1 := Lin.one d (d + 1) d ⟨by simp, by decide, by decide⟩ (by simp [dn]) (by simp [dn]) (by simp [dn, up])
theorem last_app {c : UInt8} (x : List UInt8) {t : List UInt8} (h : t.getLast? = some c) : (x ++ t).getLast? = some c := by rw [List.getLast?_append, h]; rfl
theorem last_cons {c : UInt8} (a : UInt8) {t : List UInt8} (h : t.getLast? = some c) : (a :: t).getLast? = some c := last_app [a] h
def Hd2 (t : List UInt8) : Prop := ∃ a r, t = a :: r ∧ a ≠ 32 ∧ a ≠ 125
theorem good_hd {t : List UInt8} (nl : ¬ (10 : UInt8) ∈ t) (h : Hd2 t) : Good t ∧ dn t = 0 := by
  obtain ⟨a, r, rfl, h1, h2⟩ := h
  exact ⟨⟨by simp, nl, by simpa using h1⟩, by simpa [dn] using h2⟩
theorem name_hd {s : ByteArray} {t : List UInt8} (h : nameE s = true) : Hd2 (bytesOf' s ++ t) := by
  obtain ⟨h1, h2, h4⟩ := name_good h
  cases e : bytesOf' s with
  | nil => exact absurd e h4
  | cons a r =>
    rw [e] at h2
    simp only [List.getD_cons_zero] at h2
    exact ⟨a, r ++ t, rfl, by intro c; subst c; exact absurd h2 (by decide), by intro c; subst c; exact absurd h2 (by decide)⟩
/-- A line that opens nothing and closes nothing. -/
theorem plain_lin {t : List UInt8} (d : Nat) (nl : ¬ (10 : UInt8) ∈ t) (h : Hd2 t) (hl : t.getLast? = some 59) : Lin (lineT d t) d d 1 := by
  obtain ⟨g, h0⟩ := good_hd nl h
  exact Lin.one d d d g (by omega) (by omega) (by rw [h0, up, hl]; simp)
theorem open_lin {t : List UInt8} (d : Nat) (nl : ¬ (10 : UInt8) ∈ t) (h : Hd2 t) (hl : t.getLast? = some 123) : Lin (lineT d t) d (d + 1) 1 := by
  obtain ⟨g, h0⟩ := good_hd nl h
  exact Lin.one d d (d + 1) g (by omega) (by omega) (by rw [h0, up, hl]; simp)
theorem else_lin (d : Nat) : Lin (lineT d [125, 32, 101, 108, 115, 101, 32, 123]) (d + 1) (d + 1) 1 := Lin.one d (d + 1) (d + 1) ⟨by simp, by decide, by decide⟩ (by simp [dn]) (by simp [dn]) (by simp [dn, up])
mutual
theorem stT_lin : ∀ (x : StD) (d lv : Nat), (chkS x lv).e = 0 → Lin (stT x d) d d (linS x)
  | .mk k s n a b body els cases, d, lv, h => by
    obtain ⟨h1, ha, hb, hbody, hcases, hels⟩ := chkS_ok h
    obtain ⟨hform, hname, _, _, hcall⟩ := ownS_ok h1
    have lb := stTs_lin body (d + 1) (lv + 1) hbody
    have le := stTs_lin els (d + 1) (lv + 1) hels
    have le2 := stTs_lin els (d + 2) (lv + 1) hels
    have lc := caTs_lin cases (d + 1) (lv + 1) hcases
    simp only [StD.kind, StD.name, StD.a, StD.b] at ha hb hname hcall
    have na : cA k = true → ¬ (10 : UInt8) ∈ exT a := fun c => exT_nl a _ (ha c)
    have nb : cB k = true → ¬ (10 : UInt8) ∈ exT b := fun c => exT_nl b _ (hb c)
    have nn := num_nl n
    rw [stT, linS]
    by_cases k1 : k = 1
    · subst k1
      have n1 := na rfl
      have n2 := name_nl (hname rfl)
      exact plain_lin d (by simp [n1, n2]) ⟨_, _, rfl, by decide, by decide⟩ (by repeat first | rfl | refine last_app _ ?_ | refine last_cons _ ?_)
    by_cases k2 : k = 2
    · subst k2
      have n2 := name_nl (hname rfl)
      exact plain_lin d (by simp [nn, n2]) ⟨_, _, rfl, by decide, by decide⟩ (by repeat first | rfl | refine last_app _ ?_ | refine last_cons _ ?_)
    by_cases k3 : k = 3
    · subst k3
      have n1 := na rfl
      have n2 := name_nl (hname rfl)
      exact plain_lin d (by simp [n1, n2]) (name_hd (hname rfl)) (by repeat first | rfl | refine last_app _ ?_ | refine last_cons _ ?_)
    by_cases k4 : k = 4
    · subst k4
      have n1 := na rfl
      have n3 := nb rfl
      have n2 := name_nl (hname rfl)
      exact plain_lin d (by simp [n1, n2, n3]) (name_hd (hname rfl)) (by repeat first | rfl | refine last_app _ ?_ | refine last_cons _ ?_)
    by_cases k5 : k = 5
    · subst k5
      have n1 := na rfl
      have h0 := open_lin (t := [105, 102, 32] ++ (exT a ++ [32, 123])) d (by simp [n1]) ⟨_, _, rfl, by decide, by decide⟩ (by repeat first | rfl | refine last_app _ ?_ | refine last_cons _ ?_)
      by_cases he : els.length = 0
      · have e0 : els = [] := List.length_eq_zero_iff.1 he
        subst e0
        exact (h0.app (lb.app (close_lin d))).cast (by simp [linSs]; omega)
      · show Lin (_ ++ (_ ++ ((if els.length = 0 then _ else _) ++ _))) _ _ (2 + linSs body + linSs els + (if els.length = 0 then 0 else 1))
        rw [if_neg he, if_neg he]
        exact (h0.app (lb.app (((else_lin d).app le).app (close_lin d)))).cast (by omega)
    by_cases k6 : k = 6
    · subst k6
      have n1 := na rfl
      have h0 := open_lin (t := [115, 119, 105, 116, 99, 104, 32] ++ (exT a ++ [32, 123])) d (by simp [n1]) ⟨_, _, rfl, by decide, by decide⟩ (by repeat first | rfl | refine last_app _ ?_ | refine last_cons _ ?_)
      by_cases he : els.length = 0
      · show Lin (_ ++ (_ ++ ((if els.length = 0 then _ else _) ++ _))) _ _ (2 + linCs cases + (if els.length = 0 then 0 else 2 + linSs els))
        rw [if_pos he, if_pos he]
        exact (h0.app (lc.app (close_lin d))).cast (by omega)
      · show Lin (_ ++ (_ ++ ((if els.length = 0 then _ else _) ++ _))) _ _ (2 + linCs cases + (if els.length = 0 then 0 else 2 + linSs els))
        rw [if_neg he, if_neg he]
        have h1 := open_lin (t := [101, 108, 115, 101, 32, 123]) (d + 1) (by decide) ⟨_, _, rfl, by decide, by decide⟩ (by repeat first | rfl | refine last_app _ ?_ | refine last_cons _ ?_)
        exact (h0.app (lc.app ((h1.app (le2.app (close_lin (d + 1)))).app (close_lin d)))).cast (by omega)
    by_cases k7 : k = 7
    · subst k7
      have n1 := na rfl
      have n3 := nb rfl
      have n2 := name_nl (hname rfl)
      have h0 := open_lin (t := [102, 111, 114, 32] ++ (bytesOf' s ++ ([32, 105, 110, 32] ++ (exT a ++ (46 :: 46 :: (exT b ++ [32, 123])))))) d (by simp [n1, n2, n3]) ⟨_, _, rfl, by decide, by decide⟩ (by repeat first | rfl | refine last_app _ ?_ | refine last_cons _ ?_)
      exact (h0.app (lb.app (close_lin d))).cast (by show 1 + (linSs body + 1) = 2 + linSs body; omega)
    by_cases k8 : k = 8
    · subst k8
      exact plain_lin d (by decide) ⟨_, _, rfl, by decide, by decide⟩ (by repeat first | rfl | refine last_app _ ?_ | refine last_cons _ ?_)
    by_cases k9 : k = 9
    · subst k9
      have n1 := na rfl
      exact plain_lin d (by simp [n1]) ⟨_, _, rfl, by decide, by decide⟩ (by repeat first | rfl | refine last_app _ ?_ | refine last_cons _ ?_)
    have k10 : k = 10 := by
      have : knownS k = true := by
        unfold formS at hform
        simp only [Bool.and_eq_true] at hform
        exact hform.1.1.1.1.1.1.1
      simp only [knownS, Bool.and_eq_true, decide_eq_true_eq] at this
      omega
    subst k10
    have n1 := na rfl
    obtain ⟨t, ht, _⟩ := call_head (hcall rfl)
    obtain ⟨h2, _⟩ := chkE_ok (ha rfl)
    obtain ⟨_, _, h3, _⟩ := ownE_ok h2
    have h4 := h3 (by rw [hcall rfl]; rfl)
    refine plain_lin d (by simp [n1]) ?_ (by repeat first | rfl | refine last_app _ ?_ | refine last_cons _ ?_)
    rw [ht, List.append_assoc]
    exact name_hd h4
theorem caT_lin : ∀ (x : CaD) (d lv : Nat), (chkC x lv).e = 0 → Lin (caT x d) d d (linC x)
  | .mk n body, d, lv, h => by
    rw [chkC] at h
    have lb := stTs_lin body (d + 1) lv h
    have nn := num_nl n
    rw [caT, linC]
    exact ((open_lin d (by simp [nn]) ⟨_, _, rfl, by decide, by decide⟩ (by repeat first | rfl | refine last_app _ ?_ | refine last_cons _ ?_)).app (lb.app (close_lin d))).cast (by omega)
theorem stTs_lin : ∀ (l : List StD) (d lv : Nat), (chkSs l lv).e = 0 → Lin (stTs l d) d d (linSs l)
  | [], d, lv, _ => by rw [stTs, linSs]; exact Lin.nil d
  | x :: r, d, lv, h => by
    rw [chkSs, Met.on_e, orI_zero] at h
    rw [stTs, linSs]
    exact (stT_lin x d lv h.1).app (stTs_lin r d lv h.2)
theorem caTs_lin : ∀ (l : List CaD) (d lv : Nat), (chkCs l lv).e = 0 → Lin (caTs l d) d d (linCs l)
  | [], d, lv, _ => by rw [caTs, linCs]; exact Lin.nil d
  | x :: r, d, lv, h => by
    rw [chkCs, Met.on_e, orI_zero] at h
    rw [caTs, linCs]
    exact (caT_lin x d lv h.1).app (caTs_lin r d lv h.2)
end
def linFs : List FnD → Nat
  | [] => 0
  | f :: r => 2 + linSs f.body + linFs r
theorem pars_ok : ∀ {l : List PaD}, pars l = 0 → ∀ x, x ∈ l → nameE x.name = true
  | [], _, x, hx => by simp at hx
  | y :: r, h, x, hx => by
    rw [pars] at h
    repeat' split at h
    all_goals first | (exact absurd h (by decide)) | skip
    rename_i h1 h2
    rcases List.mem_cons.1 hx with rfl | hx
    · simpa using h1
    · exact pars_ok h x hx
theorem faceD_ok {f : FnD} (h : faceD f = 0) : nameE f.name = true ∧ f.params.length ≤ 8 ∧ pars f.params = 0 := by
  unfold faceD at h
  repeat' split at h
  all_goals first | (exact absurd h (by decide)) | skip
  rename_i h1 h2
  exact ⟨by simpa using h1, by omega, h⟩
theorem fnT_lin {f : FnD} (h1 : faceD f = 0) (h2 : (chkSs f.body 1).e = 0) : Lin (fnT f) 0 0 (2 + linSs f.body) := by
  obtain ⟨a1, _, a3⟩ := faceD_ok h1
  have n1 := name_nl a1
  have n2 : ¬ (10 : UInt8) ∈ joinT (f.params.map paT) := join_nl fun x hx => by
    obtain ⟨y, hy, rfl⟩ := List.mem_map.1 hx
    have := name_nl (pars_ok a3 y hy)
    have h3 := num_nl y.lo
    have h4 := num_nl y.hi
    rw [paT]; simp [this, h3, h4]
  exact ((open_lin (t := _ ++ (_ ++ (_ :: (_ ++ [41, 32, 123])))) 0 (by simp [n1, n2]) ⟨_, _, rfl, by decide, by decide⟩ (by repeat first | rfl | refine last_app _ ?_ | refine last_cons _ ?_)).app ((stTs_lin f.body 1 1 h2).app (close_lin 0))).cast (by omega)
theorem fnTs_lin : ∀ {l : List FnD}, (∀ k, k < l.length → faceD (nthF l k) = 0 ∧ (chkSs (nthF l k).body 1).e = 0) → Lin (fnTs l) 0 0 (linFs l)
  | [], _ => by rw [fnTs, linFs]; exact Lin.nil 0
  | f :: r, h => by
    rw [fnTs, linFs]
    exact (fnT_lin (h 0 (by simp)).1 (h 0 (by simp)).2).app (fnTs_lin fun k hk => h (k + 1) (by simpa using hk))
theorem wid_lin (l : List Int) : Lin (widT l) 0 0 (if l.length = 0 then 0 else 1) := by
  rw [widT]
  split
  · exact Lin.nil 0
  · have n1 : ¬ (10 : UInt8) ∈ joinT (l.map numD) := join_nl fun x hx => by
      obtain ⟨y, hy, rfl⟩ := List.mem_map.1 hx
      exact num_nl y
    exact plain_lin 0 (by simp [n1]) ⟨_, _, rfl, by decide, by decide⟩ (by repeat first | rfl | refine last_app _ ?_ | refine last_cons _ ?_)
theorem prT_lin {p : PrD} (h : (checkD p).e = 0) : Lin (prT p) 0 0 ((if p.widen.length = 0 then 0 else 1) + linFs p.funcs) :=
  (wid_lin p.widen).app (fnTs_lin fun k hk => fnsD_ok (checkD_ok h).2 k hk)
end Go.Proofs.YtdddppmfeoebgaaDoor
