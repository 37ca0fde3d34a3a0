/-
  Layer 2 (tree), in plain Lean: one statement of a program loses its kind.
-/
import Derived.Test.YtdddppmfeoebgaaDoorTreeC
namespace Go.Proofs.YtdddppmfeoebgaaDoor
open Go.RowKit
set_option linter.unusedSimpArgs false
set_option linter.unusedVariables false
/-! How many statements there are. -/
mutual
def numS : StD → Nat
  | .mk _ _ _ _ _ body els cases => 1 + numSs body + numCs cases + numSs els
def numC : CaD → Nat
  | .mk _ body => numSs body
def numSs : List StD → Nat
  | [] => 0
  | x :: r => numS x + numSs r
def numCs : List CaD → Nat
  | [] => 0
  | x :: r => numC x + numCs r
end
/-! The one of a number (from 1 on) loses its kind; 0, or more than there are: none does. -/
mutual
def brkS : StD → Nat → StD
  | .mk k s n a b body els cases, t => .mk (if t = 1 then 0 else k) s n a b (brkSs body (t - 1)) (brkSs els (t - 1 - numSs body - numCs cases)) (brkCs cases (t - 1 - numSs body))
def brkC : CaD → Nat → CaD
  | .mk n body, t => .mk n (brkSs body t)
def brkSs : List StD → Nat → List StD
  | [], _ => []
  | x :: r, t => brkS x t :: brkSs r (t - numS x)
def brkCs : List CaD → Nat → List CaD
  | [], _ => []
  | x :: r, t => brkC x t :: brkCs r (t - numC x)
end
mutual
theorem brkS_0 : ∀ (x : StD) (t : Nat), t = 0 ∨ numS x < t → brkS x t = x
  | .mk k s n a b body els cases, t, h => by
    rw [numS] at h
    rw [brkS, if_neg (by omega), brkSs_0 body (t - 1) (by omega), brkSs_0 els _ (by omega), brkCs_0 cases _ (by omega)]
theorem brkC_0 : ∀ (x : CaD) (t : Nat), t = 0 ∨ numC x < t → brkC x t = x
  | .mk n body, t, h => by
    rw [numC] at h
    rw [brkC, brkSs_0 body t h]
theorem brkSs_0 : ∀ (l : List StD) (t : Nat), t = 0 ∨ numSs l < t → brkSs l t = l
  | [], t, h => by rw [brkSs]
  | x :: r, t, h => by
    rw [numSs] at h
    rw [brkSs, brkS_0 x t (by omega), brkSs_0 r _ (by omega)]
theorem brkCs_0 : ∀ (l : List CaD) (t : Nat), t = 0 ∨ numCs l < t → brkCs l t = l
  | [], t, h => by rw [brkCs]
  | x :: r, t, h => by
    rw [numCs] at h
    rw [brkCs, brkC_0 x t (by omega), brkCs_0 r _ (by omega)]
end
theorem brkSs_len : ∀ (l : List StD) (t : Nat), (brkSs l t).length = l.length
  | [], t => by rw [brkSs]
  | x :: r, t => by rw [brkSs, List.length_cons, List.length_cons, brkSs_len r]
theorem brkCs_len : ∀ (l : List CaD) (t : Nat), (brkCs l t).length = l.length
  | [], t => by rw [brkCs]
  | x :: r, t => by rw [brkCs, List.length_cons, List.length_cons, brkCs_len r]
theorem brkCs_low : ∀ (l : List CaD) (t : Nat), lowestD (brkCs l t) = lowestD l
  | [], t => by rw [brkCs]
  | x :: r, t => by
    cases x
    have := brkCs_low r (t - numC (.mk ‹_› ‹_›))
    rw [lowestD, lowestD] at this ⊢
    rw [brkCs, brkC, List.any_cons, List.any_cons, this]; rfl
mutual
theorem brkS_cnt : ∀ (x : StD) (t : Nat), cntS (brkS x t) = cntS x
  | .mk k s n a b body els cases, t => by rw [brkS, cntS, cntS, brkSs_cnt body, brkSs_cnt els, brkCs_cnt cases]
theorem brkC_cnt : ∀ (x : CaD) (t : Nat), cntC (brkC x t) = cntC x
  | .mk n body, t => by rw [brkC, cntC, cntC, brkSs_cnt body]
theorem brkSs_cnt : ∀ (l : List StD) (t : Nat), cntSs (brkSs l t) = cntSs l
  | [], t => by rw [brkSs]
  | x :: r, t => by rw [brkSs, cntSs, cntSs, brkS_cnt x, brkSs_cnt r]
theorem brkCs_cnt : ∀ (l : List CaD) (t : Nat), cntCs (brkCs l t) = cntCs l
  | [], t => by rw [brkCs]
  | x :: r, t => by rw [brkCs, cntCs, cntCs, brkC_cnt x, brkCs_cnt r]
end
/-- What is right has met so many statements; without its kind the one of a number is told. -/
def Brk (p : Met) (num t : Nat) (q : Met) : Prop := p.e = 0 → p.n = num ∧ (1 ≤ t → t ≤ num → q = ⟨t, 5⟩)
theorem brk_on {p q p' q' : Met} {m n t : Nat} (h1 : Brk p m t p') (h2 : Brk q n (t - m) q') (h0 : t = 0 ∨ m < t → p' = p) : Brk (p.on q) (m + n) t (p'.on q') := fun he => by
  rw [Met.on_e, orI_zero] at he
  obtain ⟨a1, a2⟩ := h1 he.1
  obtain ⟨b1, b2⟩ := h2 he.2
  refine ⟨by rw [Met.on_okC he.1, a1, b1], fun h3 h4 => ?_⟩
  rcases Nat.lt_or_ge m t with k | k
  · rw [h0 (.inr k), Met.on_okC he.1, b2 (by omega) (by omega), a1]
    simp only [Met.mk.injEq, and_true]; omega
  · rw [a2 h3 k, Met.on, if_pos (by simp)]
mutual
theorem brkS_chk : ∀ (x : StD) (t lv : Nat), Brk (chkS x lv) (numS x) t (chkS (brkS x t) lv)
  | .mk k s n a b body els cases, t, lv => by
    intro he
    rw [chkS] at he ⊢
    rw [brkS, chkS]
    have hb := brkSs_chk body (t - 1) (lv + 1)
    have hc := brkCs_chk cases (t - 1 - numSs body) (lv + 1)
    have hl := brkSs_chk els (t - 1 - numSs body - numCs cases) (lv + 1)
    have h1 := brk_on hb (brk_on hc hl (fun h => by rw [brkCs_0 cases _ h])) (fun h => by rw [brkSs_0 body _ h])
    have he' := he
    simp only [Met.on_e, orI_zero] at he'
    obtain ⟨e1, e2, e3, e4, e5, e6⟩ := he'
    have h2 := h1 (by simp only [Met.on_e, orI_zero]; exact ⟨e4, e5, e6⟩)
    rw [Met.on_okC e1, Met.on_okC e2, Met.on_okC e3]
    refine ⟨by rw [numS]; simp only [h2.1]; omega, fun h3 h4 => ?_⟩
    have hlv : ¬ 32 < lv := fun c => by rw [if_pos c] at e1; exact absurd e1 (by decide)
    by_cases h5 : t = 1
    · subst h5
      have : ownS (.mk 0 s n a b (brkSs body (1 - 1)) (brkSs els (1 - 1 - numSs body - numCs cases)) (brkCs cases (1 - 1 - numSs body))) = 5 := by
        rw [ownS, formS]; rfl
      rw [if_pos rfl, if_neg hlv, this, Met.on, if_pos (by simp)]
    · have hown : ownS (.mk k s n a b (brkSs body (t - 1)) (brkSs els (t - 1 - numSs body - numCs cases)) (brkCs cases (t - 1 - numSs body))) = ownS (.mk k s n a b body els cases) := by
        unfold ownS formS
        simp only [StD.kind, StD.name, StD.n, StD.a, StD.b, StD.body, StD.els, StD.cases, brkSs_len, brkCs_len, brkCs_low]
        rfl
      rw [numS] at h4
      rw [if_neg h5, hown, Met.on_okC e1, Met.on_okC e2, Met.on_okC e3, h2.2 (by omega) (by omega)]
      simp only [Met.mk.injEq, and_true]; omega
theorem brkC_chk : ∀ (x : CaD) (t lv : Nat), Brk (chkC x lv) (numC x) t (chkC (brkC x t) lv)
  | .mk n body, t, lv => by
    rw [brkC, chkC, chkC, numC]
    exact brkSs_chk body t lv
theorem brkSs_chk : ∀ (l : List StD) (t lv : Nat), Brk (chkSs l lv) (numSs l) t (chkSs (brkSs l t) lv)
  | [], t, lv => by rw [brkSs, chkSs, numSs]; exact fun _ => ⟨rfl, fun h1 h2 => by omega⟩
  | x :: r, t, lv => by
    rw [brkSs, chkSs, chkSs, numSs]
    exact brk_on (brkS_chk x t lv) (brkSs_chk r (t - numS x) lv) (fun h => by rw [brkS_0 x t h])
theorem brkCs_chk : ∀ (l : List CaD) (t lv : Nat), Brk (chkCs l lv) (numCs l) t (chkCs (brkCs l t) lv)
  | [], t, lv => by rw [brkCs, chkCs, numCs]; exact fun _ => ⟨rfl, fun h1 h2 => by omega⟩
  | x :: r, t, lv => by
    rw [brkCs, chkCs, chkCs, numCs]
    exact brk_on (brkC_chk x t lv) (brkCs_chk r (t - numC x) lv) (fun h => by rw [brkC_0 x t h])
end
theorem cntFs_same : ∀ {l m : List FnD}, l.length = m.length → (∀ j, j < l.length → cntSs (nthF l j).body = cntSs (nthF m j).body) → cntFs l = cntFs m
  | [], [], _, _ => rfl
  | [], _ :: _, h, _ => by simp at h
  | _ :: _, [], h, _ => by simp at h
  | f :: r, g :: t, h, hj => by
    have h0 := hj 0 (by simp)
    have h1 := cntFs_same (l := r) (m := t) (by simpa using h) fun j hl => hj (j + 1) (by simpa using hl)
    rw [cntFs, cntFs, h1, show cntSs f.body = cntSs g.body from h0]
/-- A program of which one statement has lost its kind; what the functions behind are called does not matter. -/
theorem brk_check {p q : PrD} {fn t : Nat} (h : (checkD p).e = 0) (hfn : fn < p.funcs.length) (ht : 1 ≤ t) (hn : t ≤ numSs (nthF p.funcs fn).body) (hw : q.widen = p.widen) (hl : q.funcs.length = p.funcs.length)
    (hlo : ∀ j, j < fn → nthF q.funcs j = nthF p.funcs j) (hat : nthF q.funcs fn = ⟨(nthF p.funcs fn).name, (nthF p.funcs fn).params, brkSs (nthF p.funcs fn).body t⟩) (hhi : ∀ j, fn < j → (nthF q.funcs j).body = (nthF p.funcs j).body) :
    checkD q = ⟨5, fn, t⟩ ∧ q ≠ p := by
  obtain ⟨h1, h2⟩ := checkD_ok h
  obtain ⟨a1, a2, a3, a4, a5⟩ := headD_ok h1
  have hc : cntFs q.funcs = cntFs p.funcs := cntFs_same hl fun j hj => by
    rcases Nat.lt_trichotomy j fn with k | k | k
    · rw [hlo j k]
    · subst k; rw [hat]; exact brkSs_cnt _ _
    · rw [hhi j k]
  have h3 : headD q = 0 := headD_mk (by rw [hw]; exact a1) (by rw [hw]; exact a2) (by rw [hw]; exact a3) (by omega) (by omega)
  have h4 := (brkSs_chk (nthF p.funcs fn).body t 1 (fnsD_ok h2 fn hfn).2).2 ht hn
  have h5 : (chkSs (nthF q.funcs fn).body 1) = ⟨t, 5⟩ := by rw [hat]; exact h4
  have h6 : checkD q = ⟨5, fn, t⟩ := by
    rw [checkD, if_neg fun c => c h3, fnsD_atC (k := fn) (by omega) (fun j hj => by rw [hlo j hj]; exact fnsD_ok h2 j (by omega)) (by rw [hat]; exact (fnsD_ok h2 fn hfn).1) (by rw [h5]; exact (by decide : (5 : Int) ≠ 0)), h5]
    simp
  refine ⟨h6, fun e => ?_⟩
  rw [e] at h6
  rw [h6] at h
  exact absurd h (by decide : ¬ (5 : Int) = 0)
end Go.Proofs.YtdddppmfeoebgaaDoor
