/-
  Layer 2 (tree): a program in blocks of its own of which one statement has lost its kind, and some functions their names; plain.
-/
import Derived.Test.YtdddppmfeoebgaaDoorOwnW
namespace Go.Proofs.YtdddppmfeoebgaaDoor
open Go.RowKit
set_option linter.unusedSimpArgs false
set_option linter.unusedVariables false
theorem fnRow_alt {l m : List FnD} {gp gb : Nat → Nat} : ∀ n, (∀ j, j < n → fL (nthF l j) (gp j) (gb j) = fL (nthF m j) (gp j) (gb j)) → fnRow l gp gb n = fnRow m gp gb n
  | 0, _ => rfl
  | n + 1, h => by rw [fnRow_succ, fnRow_succ, fnRow_alt n (fun j hj => h j (by omega)), h n (by omega)]
theorem fnRow_name {l m : List FnD} {gp gb : Nat → Nat} {k : Nat} {v : Value} : ∀ n, k < n → (∀ j, j < n → j ≠ k → fL (nthF l j) (gp j) (gb j) = fL (nthF m j) (gp j) (gb j)) → fL (nthF m k) (gp k) (gb k) = (fL (nthF l k) (gp k) (gb k)).set 0 v → (fnRow l gp gb n).set (k * 3) v = fnRow m gp gb n
  | n + 1, h, hj, hk => by
    rw [fnRow_succ, fnRow_succ]
    by_cases c : n = k
    · subst c
      rw [List.set_append_right _ _ (by rw [fnRow_len]; omega), fnRow_len, Nat.sub_self, hk, fnRow_alt n (fun j h1 => hj j (by omega) (by omega))]
    · rw [List.set_append_left _ _ (by rw [fnRow_len]; omega), fnRow_name n (by omega) (fun j h1 h2 => hj j (by omega) h2) hk, hj n (by omega) c]
def inName : ByteArray := ⟨#[105, 110]⟩
/-- Statement t of function fn has lost its kind; the functions behind fn and below i are called "in". -/
def brkF (p : PrD) (fn t i j : Nat) : FnD :=
  if j = fn then ⟨(nthF p.funcs j).name, (nthF p.funcs j).params, brkSs (nthF p.funcs j).body t⟩ else if fn < j ∧ j < i then ⟨inName, (nthF p.funcs j).params, (nthF p.funcs j).body⟩ else nthF p.funcs j
def brkP (p : PrD) (fn t i : Nat) : PrD := ⟨p.widen, (List.range p.funcs.length).map (brkF p fn t i)⟩
theorem brkP_len (p : PrD) (fn t i : Nat) : (brkP p fn t i).funcs.length = p.funcs.length := by simp [brkP]
theorem brkP_nth {p : PrD} {fn t i j : Nat} (h : j < p.funcs.length) : nthF (brkP p fn t i).funcs j = brkF p fn t i j := by
  simp only [nthF, brkP, List.getD_eq_getElem?_getD, List.getElem?_map, List.getElem?_range h, Option.map_some, Option.getD_some]
theorem brkF_params (p : PrD) (fn t i j : Nat) : (brkF p fn t i j).params = (nthF p.funcs j).params := by unfold brkF; split <;> (try split) <;> rfl
theorem brkF_blen (p : PrD) (fn t i j : Nat) : (brkF p fn t i j).body.length = (nthF p.funcs j).body.length := by unfold brkF; split <;> (try split) <;> (try rfl) <;> exact brkSs_len _ _
theorem brkF_body (p : PrD) (fn t i i2 j : Nat) : (brkF p fn t i j).body = (brkF p fn t i2 j).body := by unfold brkF; split <;> (try split) <;> (try split) <;> rfl
theorem brkP_check {p : PrD} {fn t i : Nat} (h : (checkD p).e = 0) (hfn : fn < p.funcs.length) (ht : 1 ≤ t) (hn : t ≤ numSs (nthF p.funcs fn).body) : checkD (brkP p fn t i) = ⟨5, fn, t⟩ ∧ brkP p fn t i ≠ p :=
  brk_check h hfn ht hn rfl (brkP_len _ _ _ _) (fun j hj => by rw [brkP_nth (by omega), brkF, if_neg (by omega), if_neg (by omega)]) (by rw [brkP_nth hfn, brkF, if_pos rfl])
    (fun j hj => by
      by_cases hl : j < p.funcs.length
      · rw [brkP_nth hl, brkF, if_neg (by omega)]; split <;> rfl
      · have h1 : nthF (brkP p fn t i).funcs j = ⟨.empty, [], []⟩ := by simp only [nthF, List.getD_eq_getElem?_getD]; rw [List.getElem?_eq_none (by rw [brkP_len]; omega)]; rfl
        have h2 : nthF p.funcs j = ⟨.empty, [], []⟩ := by simp only [nthF, List.getD_eq_getElem?_getD]; rw [List.getElem?_eq_none (by omega)]; rfl
        rw [h1, h2])
theorem brkP_none {p : PrD} {fn t : Nat} (h : numSs (nthF p.funcs fn).body < t) : brkP p fn t (fn + 1) = p := by
  obtain ⟨wi, fs⟩ := p
  unfold brkP
  congr 1
  refine ext_get (⟨.empty, [], []⟩ : FnD) (by simp) fun k hk => ?_
  rw [List.length_map, List.length_range] at hk
  have := brkP_nth (p := ⟨wi, fs⟩) (fn := fn) (t := t) (i := fn + 1) hk
  refine this.trans ?_
  unfold brkF
  split
  · next e =>
    subst e
    rw [brkSs_0 _ _ (.inr h)]; rfl
  · rw [if_neg (by omega)]; rfl
/-- What bounds hold of a program. -/
structure PrWf (w0 : World) (B0 : Nat) (p : PrD) : Prop where
  wlen : p.widen.length * 8 ≤ 140737488351232
  wwf : ∀ k, k < p.widen.length → In64 (p.widen.getD k 0)
  flen : p.funcs.length * 64 ≤ 140737488351232
  name : ∀ k, k < p.funcs.length → (nthF p.funcs k).name.size ≤ maxLen
  plen : ∀ k, k < p.funcs.length → (nthF p.funcs k).params.length * 32 ≤ 140737488351232
  pwf : ∀ k, k < p.funcs.length → ∀ j, j < (nthF p.funcs k).params.length → (nthP (nthF p.funcs k).params j).name.size ≤ maxLen ∧ In64 (nthP (nthF p.funcs k).params j).lo ∧ In64 (nthP (nthF p.funcs k).params j).hi
  body : ∀ k, k < p.funcs.length → StsWf w0 B0 (nthF p.funcs k).body
theorem PrOk.wfs {w : World} {B : Nat} {p : PrD} {wa fa : Option Addr} (h : PrOk w B p wa fa) : PrWf w B p := by
  obtain ⟨wlen, _, wwf, ⟨hd, flen, _, each⟩⟩ := h
  exact ⟨wlen, wwf, flen, fun k hk => (each k hk).name, fun k hk => (each k hk).plen, fun k hk => (each k hk).pwf, fun k hk => (each k hk).body.wfs⟩
theorem PrWf.brk {w0 : World} {B0 : Nat} {p : PrD} (h : PrWf w0 B0 p) (fn t i : Nat) : PrWf w0 B0 (brkP p fn t i) := by
  refine ⟨h.wlen, h.wwf, by rw [brkP_len]; exact h.flen, fun k hk => ?_, fun k hk => ?_, fun k hk j hj => ?_, fun k hk => ?_⟩
  all_goals rw [brkP_len] at hk
  · rw [brkP_nth hk]
    unfold brkF
    split
    · exact h.name k hk
    · split
      · exact (by decide : inName.size ≤ maxLen)
      · exact h.name k hk
  · rw [brkP_nth hk, brkF_params]; exact h.plen k hk
  · rw [brkP_nth hk, brkF_params] at hj ⊢; exact h.pwf k hk j hj
  · rw [brkP_nth hk]
    unfold brkF
    split
    · exact (h.body k hk).brk t
    · split <;> exact h.body k hk
theorem PrOwn.okw {W : World} {lo : Nat} {p : PrD} {gw gf : Nat} {gp gb lb hb : Nat → Nat} (h : PrOwn W lo p gw gf gp gb lb hb) {w0 : World} {B0 : Nat} (h0 : PrWf w0 B0 p) : PrOk W W.heap.size p (some ⟨gw, 0, none⟩) (some ⟨gf, 0, none⟩) := by
  refine ⟨h0.wlen, fun _ => ⟨gw, 0, rfl, h.wrow.lt, fun k hk j hj => ?_⟩, h0.wwf, .mk (fun k => ⟨⟨some ⟨gp k, 0, none⟩, (nthF p.funcs k).params.length + 1⟩, ⟨some ⟨gb k, 0, none⟩, (nthF p.funcs k).body.length + 1⟩⟩) h0.flen (fun _ => ⟨gf, 0, rfl, h.frow.lt, fun k hk j hj => ?_⟩) fun k hk => ?_⟩
  · rw [Nat.zero_add]
    refine (h.wrow.cell _).trans ?_
    rw [List.getElem?_toArray, List.getElem?_append_left (by rw [wiL, rowsL_len]; omega), wiL]
    exact rowsL_get hk hj
  · rw [Nat.zero_add]
    refine (h.frow.cell _).trans ?_
    rw [List.getElem?_toArray, List.getElem?_append_left (by rw [fnRow_len]; omega)]
    exact fnRow_get hk hj
  · have o := h.one k hk
    refine ⟨h0.name k hk, h0.plen k hk, fun _ => ⟨gp k, 0, rfl, o.prow.lt, fun i hi j hj => ?_⟩, h0.pwf k hk, o.body.atw (h0.body k hk)⟩
    rw [Nat.zero_add]
    refine (o.prow.cell _).trans ?_
    rw [List.getElem?_toArray, List.getElem?_append_left (by rw [paL, rowsL_len]; omega), paL]
    exact rowsL_get hi hj
/-- The body of one function has been changed. -/
theorem PrOwn.brk {W W' : World} {lo : Nat} {p : PrD} {gw gf : Nat} {gp gb lb hb : Nat → Nat} (h : PrOwn W lo p gw gf gp gb lb hb) {fn t bx : Nat} (hfn : fn < p.funcs.length) (hs : StsOwn W' (lb fn) (hb fn) (gb fn) (brkSs (nthF p.funcs fn).body t))
    (hm : Mod (fun b => (lb fn ≤ b ∧ b < hb fn) ∨ b = bx) W W') (hbx : ∀ j, j < p.funcs.length → hb j ≤ bx) (hgf : gf < bx) : PrOwn W' lo (brkP p fn t (fn + 1)) gw gf gp gb lb hb := by
  have hl := h.lt
  have sz := hm.size
  have hi := h.into fn hfn
  refine ⟨h.low, h.lt, hm.whl h.wrow (by omega), ?_, fun j hj => ?_, fun i j hij hj => h.apart i j hij (by rwa [brkP_len] at hj), fun j hj => ?_⟩
  · have := hm.whl h.frow (by omega)
    rw [brkP_len]
    rwa [fnRow_alt (l := (brkP p fn t (fn + 1)).funcs) (m := p.funcs)]
    intro j hj
    rw [brkP_nth hj, fL, fL, brkF_params, brkF_blen]
    congr 2
    unfold brkF
    split
    · rfl
    · rw [if_neg (by omega)]
  · rw [brkP_len] at hj
    have := h.into j hj
    omega
  · rw [brkP_len] at hj
    rw [brkP_nth hj]
    have hij := h.into j hj
    have o := h.one j hj
    have hle := o.body.le
    unfold brkF
    by_cases e : j = fn
    · subst e
      rw [if_pos rfl]
      exact ⟨hm.whl o.prow (by have := hbx j hj; omega), hs⟩
    · rw [if_neg e, if_neg (by omega)]
      refine o.keep (lo := gp j) (hi := hb j) (hm.agree hij.2.2 fun b c d => ?_) (Nat.le_refl _) hij.2.1 (Nat.le_refl _)
      have := hbx j hj
      rcases Nat.lt_or_gt_of_ne e with c2 | c2
      · have := h.apart j fn c2 hfn; omega
      · have := h.apart fn j c2 hj; omega
/-- One function more is called "in". -/
theorem PrOwn.named {W : World} {lo : Nat} {p : PrD} {gw gf : Nat} {gp gb lb hb : Nat → Nat} {fn t i : Nat} (h : PrOwn W lo (brkP p fn t i) gw gf gp gb lb hb) (hfi : fn < i) (hi : i < p.funcs.length) :
    PrOwn (W.setCell ⟨gf, i * 3, none⟩ (.string inName)) lo (brkP p fn t (i + 1)) gw gf gp gb lb hb := by
  have hl := h.lt
  refine ⟨h.low, h.lt, h.wrow.far (by simp only; omega) _, ?_, fun j hj => ?_, fun a j hij hj => h.apart a j hij (by rw [brkP_len] at hj ⊢; exact hj), fun j hj => ?_⟩
  · have h1 := h.frow.put (i * 3) (.string inName)
    have hn := fnRow_name (l := (brkP p fn t i).funcs) (m := (brkP p fn t (i + 1)).funcs) (gp := gp) (gb := gb) (k := i) (v := .string inName) p.funcs.length hi (fun j hj hne => by
      rw [brkP_nth hj, brkP_nth hj]
      have : brkF p fn t i j = brkF p fn t (i + 1) j := by
        unfold brkF
        split
        · rfl
        · by_cases c : fn < j ∧ j < i
          · rw [if_pos c, if_pos (by omega)]
          · rw [if_neg c, if_neg (by omega)]
      rw [this]) (by
      rw [brkP_nth hi, brkP_nth hi, fL, fL, brkF_params, brkF_params, brkF_blen, brkF_blen]
      have : brkF p fn t (i + 1) i = ⟨inName, (nthF p.funcs i).params, (nthF p.funcs i).body⟩ := by unfold brkF; rw [if_neg (by omega), if_pos (by omega)]
      rw [this]; rfl)
    rw [List.setIfInBounds_toArray, List.set_append_left _ _ (by rw [fnRow_len, brkP_len]; omega)] at h1
    rw [brkP_len] at h1 ⊢
    rwa [hn] at h1
  · rw [brkP_len] at hj
    have := h.into j (by rwa [brkP_len])
    simpa using this
  · rw [brkP_len] at hj
    have hij := h.into j (by rwa [brkP_len])
    have o := h.one j (by rwa [brkP_len])
    rw [brkP_nth hj] at o ⊢
    have e2 : (brkF p fn t (i + 1) j).params = (brkF p fn t i j).params := by rw [brkF_params, brkF_params]
    have e3 : (brkF p fn t (i + 1) j).body = (brkF p fn t i j).body := brkF_body _ _ _ _ _ _
    have o2 := o.keep (W' := W.setCell ⟨gf, i * 3, none⟩ (.string inName)) (lo := gp j) (hi := hb j) (fun b c d => Below.heap_setCell _ _ _ _ (by simp only; omega)) (Nat.le_refl _) hij.2.1 (Nat.le_refl _)
    exact ⟨by rw [e2]; exact o2.prow, by rw [e3]; exact o2.body⟩
/-! The fault that is told. -/
theorem fnsD_fn : ∀ (l : List FnD) (i : Nat), (fnsD l i).fn ≤ i + l.length := by
  intro l
  induction l with
  | nil => intro i; rw [fnsD]; simp
  | cons f r ih =>
    intro i
    have := ih (i + 1)
    rw [fnsD]
    simp only [List.length_cons]
    repeat' split
    all_goals (try simp only)
    all_goals omega
theorem check_fn (p : PrD) : (checkD p).fn ≤ p.funcs.length := by
  have := fnsD_fn p.funcs 0
  unfold checkD
  split
  · simp
  · omega
theorem print_fault {p : PrD} (h : (checkD p).e ≠ 0) : (printD p).2 = checkD p := by
  unfold printD
  split
  · rfl
  · next h2 => exact absurd h h2
end Go.Proofs.YtdddppmfeoebgaaDoor
