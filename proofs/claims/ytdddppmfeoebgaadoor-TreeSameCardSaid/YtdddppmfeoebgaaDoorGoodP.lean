/-
  Layer 2 (tree): what a program is like that has a form; how long its text is. In plain Lean.
-/
import Derived.Test.YtdddppmfeoebgaaDoorGoodS
namespace Go.Proofs.YtdddppmfeoebgaaDoor
open Go.RowKit
set_option linter.unusedSimpArgs false
set_option linter.unusedVariables false
structure GoodF (f : FnD) : Prop where
  name : f.name.size ≤ 16
  few : f.params.length ≤ 8
  pname : ∀ k, k < f.params.length → (nthP f.params k).name.size ≤ 16
  pnum : ∀ k, k < f.params.length → In64 (nthP f.params k).lo ∧ In64 (nthP f.params k).hi
  body : ∀ k, k < f.body.length → GoodS 1 (nthS f.body k)
structure GoodP (p : PrD) : Prop where
  widen : p.widen.length ≤ 16
  wnum : ∀ k, k < p.widen.length → In64 (p.widen.getD k 0)
  funcs : p.funcs.length ≤ 32
  cnt : cntFs p.funcs ≤ 4096
  each : ∀ k, k < p.funcs.length → GoodF (nthF p.funcs k)
theorem pars_zero : ∀ {l : List PaD}, pars l = 0 → ∀ k, k < l.length → (nthP l k).name.size ≤ 16
  | [], _, k, hk => by simp at hk
  | x :: r, h, 0, hk => by
    rw [pars] at h
    split at h
    · omega
    · rename_i q; exact nameE_len (s := x.name) (by simpa using q)
  | x :: r, h, k + 1, hk => by
    rw [pars] at h
    split at h
    · omega
    split at h
    · omega
    · exact pars_zero (l := r) h k (by simpa using hk)
theorem face_zero {f : FnD} (h : faceD f = 0) : f.name.size ≤ 16 ∧ f.params.length ≤ 8 ∧ ∀ k, k < f.params.length → (nthP f.params k).name.size ≤ 16 := by
  unfold faceD at h
  split at h
  · omega
  split at h
  · omega
  · rename_i q r
    exact ⟨nameE_len (by simpa using q), by omega, pars_zero h⟩
theorem fnsD_zero : ∀ {l : List FnD} {i : Nat}, (fnsD l i).e = 0 → ∀ k, k < l.length → faceD (nthF l k) = 0 ∧ (chkSs (nthF l k).body 1).e = 0
  | [], _, _, k, hk => by simp at hk
  | f :: r, i, h, k, hk => by
    rw [fnsD] at h
    split at h
    · contradiction
    split at h
    · contradiction
    · rename_i q1 q2
      cases k with
      | zero => exact ⟨show faceD f = 0 by simpa using q1, show (chkSs f.body 1).e = 0 by simpa using q2⟩
      | succ k => exact fnsD_zero (l := r) h k (by simpa using hk)
theorem goodP_of {W : World} {B : Nat} {p : PrD} {wa fa : Option Addr} (o : PrOk W B p wa fa) (h : (checkD p).e = 0) : GoodP p := by
  unfold checkD at h
  split at h
  · contradiction
  rename_i hh
  have hh : headD p = 0 := by simpa using hh
  unfold headD at hh
  split at hh
  · omega
  split at hh
  · omega
  split at hh
  · omega
  split at hh
  · omega
  rename_i h1 h2 h3 h4
  obtain @⟨hd, len, rows, each⟩ := o.funcs
  refine ⟨by omega, o.wwf, by omega, by omega, fun k hk => ?_⟩
  obtain ⟨e1, e2⟩ := fnsD_zero h k hk
  obtain ⟨a, b, c⟩ := face_zero e1
  exact ⟨a, b, c, fun j hj => ((each k hk).pwf j hj).2, goodS_all (each k hk).body 1 e2⟩
theorem paT_len {x : PaD} (hn : x.name.size ≤ 16) (h1 : In64 x.lo) (h2 : In64 x.hi) : (paT x).length ≤ 62 := by
  have a := numD_len h1
  have b := numD_len h2
  have c : (bytesOf' x.name).length ≤ 16 := hn
  simp only [paT, List.length_append, List.length_cons, List.length_nil]; omega
theorem sumT_map {α : Type} (z : α) (f : α → List UInt8) (m : Nat) : ∀ {l : List α}, (∀ k, k < l.length → (f (l.getD k z)).length ≤ m) → sumT (l.map f) ≤ (m + 2) * l.length
  | [], _ => by simp [sumT]
  | x :: r, h => by
    have h0 : (f x).length ≤ m := h 0 (by simp)
    have h1 := sumT_map z f m (l := r) fun k hk => h (k + 1) (by simpa using hk)
    rw [List.map_cons, sumT, List.length_cons, Nat.mul_add]; omega
theorem pasT_len {f : FnD} (g : GoodF f) : sumT (f.params.map paT) ≤ 512 := by
  have h := sumT_map (⟨.empty, 0, 0⟩ : PaD) paT 62 (l := f.params) fun k hk => paT_len (g.pname k hk) (g.pnum k hk).1 (g.pnum k hk).2
  have := g.few
  omega
theorem fnT_len {f : FnD} (g : GoodF f) : (fnT f).length ≤ 600 + 1000 * cntSs f.body := by
  have h1 := pasT_len g
  have h2 := joinT_len (f.params.map paT)
  have h3 := goodSs_len (d := 1) g.body (by omega)
  have h4 : (bytesOf' f.name).length ≤ 16 := g.name
  simp only [fnT, List.length_append, lineT_len, List.length_cons, List.length_nil]; omega
theorem fnTs_len : ∀ {l : List FnD}, (∀ k, k < l.length → GoodF (nthF l k)) → (fnTs l).length ≤ 600 * l.length + 1000 * cntFs l
  | [], _ => by rw [fnTs]; simp
  | f :: r, h => by
    have h0 := fnT_len (h 0 (by simp))
    have h1 := fnTs_len (l := r) fun k hk => h (k + 1) (by simpa using hk)
    have e : nthF (f :: r) 0 = f := rfl
    rw [e] at h0
    rw [fnTs, cntFs, List.length_append, List.length_cons]; omega
theorem widsT_len {p : PrD} (g : GoodP p) : sumT (p.widen.map numD) ≤ 400 := by
  have h := sumT_map (0 : Int) numD 20 (l := p.widen) fun k hk => numD_len (g.wnum k hk)
  have := g.widen
  omega
theorem widT_len {p : PrD} (g : GoodP p) : (widT p.widen).length ≤ 500 := by
  have h1 := widsT_len g
  have h2 := joinT_len (p.widen.map numD)
  unfold widT
  split
  · simp
  · simp only [List.length_append, lineT_len, List.length_cons, List.length_nil]; omega
theorem prT_len {p : PrD} (g : GoodP p) : (prT p).length ≤ 5000000 := by
  have h1 := widT_len g
  have h2 := fnTs_len g.each
  have h3 := g.cnt
  have h4 := g.funcs
  rw [prT, List.length_append]; omega
theorem fnTs_cutG (l : List FnD) (k : Nat) : fnTs l = fnTs (l.take k) ++ fnTs (l.drop k) := fold_cut (op := (· ++ ·)) (e := []) (f := fnTs) (g := fnT) List.nil_append List.append_assoc (by rw [fnTs]) (fun x r => by rw [fnTs]) _ _
end Go.Proofs.YtdddppmfeoebgaaDoor
