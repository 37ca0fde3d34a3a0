/-
  Layer 2 (tree): what lies in blocks of its own, laid open, changed in one place, and closed again; plain.
-/
import Derived.Test.YtdddppmfeoebgaaDoorCopyW
import Derived.Test.YtdddppmfeoebgaaDoorTreeD
import Derived.Test.YtdddppmfeoebgaaDoorTreeI
namespace Go.Proofs.YtdddppmfeoebgaaDoor
open Go.RowKit
set_option linter.unusedSimpArgs false
set_option linter.unusedVariables false
/-- Blocks of X alone have turned, and new ones have come. -/
structure Mod (X : Nat → Prop) (w w' : World) : Prop where
  os : w'.os = w.os
  tape : w'.tape = w.tape
  output : w'.output = w.output
  size : w.heap.size ≤ w'.heap.size
  block : ∀ b, b < w.heap.size → ¬ X b → w'.heap[b]? = w.heap[b]?
namespace Mod
variable {X Y : Nat → Prop} {w w' w2 : World}
theorem refl (X : Nat → Prop) (w : World) : Mod X w w := ⟨rfl, rfl, rfl, Nat.le_refl _, fun _ _ _ => rfl⟩
theorem trans (h : Mod X w w') (k : Mod X w' w2) : Mod X w w2 :=
  ⟨k.os.trans h.os, k.tape.trans h.tape, k.output.trans h.output, Nat.le_trans h.size k.size, fun b hb hx => (k.block b (Nat.lt_of_lt_of_le hb h.size) hx).trans (h.block b hb hx)⟩
theorem mono (h : Mod X w w') (hx : ∀ b, b < w.heap.size → X b → Y b) : Mod Y w w' := ⟨h.os, h.tape, h.output, h.size, fun b hb hy => h.block b hb fun hxb => hy (hx b hb hxb)⟩
theorem agree (h : Mod X w w') {lo hi : Nat} (h1 : hi ≤ w.heap.size) (h2 : ∀ b, lo ≤ b → b < hi → ¬ X b) : Agree lo hi w w' := fun j a b => h.block j (Nat.lt_of_lt_of_le b h1) (h2 j a b)
theorem whl (h : Mod X w w') {b : Nat} {t : TypeId} {cs : Array Value} (hw : Whl w b t cs) (hx : ¬ X b) : Whl w' b t cs := (h.block b hw.lt hx).trans hw
theorem setCell (h : Mod X w w') {p : Addr} (hx : X p.block) (v : Value) : Mod X w (w'.setCell p v) :=
  ⟨h.os, h.tape, h.output, by simpa using h.size, fun b hb hnx => (Below.heap_setCell w' p v b (fun e => hnx (e ▸ hx))).trans (h.block b hb hnx)⟩
theorem setNew (h : Mod X w w') {p : Addr} (hp : w.heap.size ≤ p.block) (v : Value) : Mod X w (w'.setCell p v) :=
  ⟨h.os, h.tape, h.output, by simpa using h.size, fun b hb hnx => (Below.heap_setCell w' p v b (fun e => by omega)).trans (h.block b hb hnx)⟩
theorem alloc (h : Mod X w w') (o : Obj) : Mod X w (w'.alloc o) :=
  ⟨h.os, h.tape, h.output, by have := h.size; simp; omega, fun b hb hnx => (Below.heap_alloc w' o b (Nat.lt_of_lt_of_le hb h.size)).trans (h.block b hb hnx)⟩
theorem go (h : Mod X w w') (k : Below w'.heap.size w' w2) : Mod X w w2 :=
  ⟨k.os.trans h.os, k.tape.trans h.tape, k.output.trans h.output, Nat.le_trans h.size k.size, fun b hb hx => (k.block b (Nat.lt_of_lt_of_le hb h.size)).trans (h.block b hb hx)⟩
theorem below (h : Mod X w w') {B : Nat} (hB : B ≤ w.heap.size) (hx : ∀ b, b < w.heap.size → X b → B ≤ b) : Below B w w' :=
  ⟨h.os, h.tape, h.output, h.size, fun k hk => h.block k (by omega) fun hxk => by have := hx k (by omega) hxk; omega⟩
/-- .. behind what has come on top of an elder world. -/
theorem step (h : Mod X w' w2) {w : World} (hb : Below w.heap.size w w') (hx : ∀ b, b < w'.heap.size → X b → w.heap.size ≤ b) : Below w.heap.size w w2 :=
  hb.trans (h.below hb.size hx)
end Mod
theorem Agree.trans' {lo hi : Nat} {w w' w2 : World} (h : Agree lo hi w w') (k : Agree lo hi w' w2) : Agree lo hi w w2 := fun j a b => (k j a b).trans (h j a b)
/-- What one statement has, in blocks of its own. -/
structure POpen (w : World) (x : StD) (c : Ch) (cb : Nat → Nat) (v : Iv) (lc hc : Nat → Nat) : Prop where
  ea : ExsOwn w v.la v.ha c.a x.a.args
  eb : ExsOwn w v.lb v.hb c.b x.b.args
  body : StsOwn w v.lB v.hB c.body x.body
  els : StsOwn w v.lE v.hE c.els x.els
  crow : Whl w c.cases 89 (caRow x.cases cb x.cases.length ++ endCa).toArray
  cinto : ∀ j, j < x.cases.length → c.cases < lc j ∧ hc j ≤ v.hh
  capart : ∀ i j, i < j → j < x.cases.length → hc i ≤ lc j
  cbody : ∀ j, j < x.cases.length → StsOwn w (lc j) (hc j) (cb j) (nthC x.cases j).body
/-- A row of statements in blocks of their own, laid open. -/
structure SOpen (w : World) (lo hi g : Nat) (l : List StD) (ch : Nat → Ch) (cb : Nat → Nat → Nat) (iv : Nat → Iv) (lc hc : Nat → Nat → Nat) : Prop where
  low : lo ≤ g
  lt : g < hi
  row : Whl w g 53 (stRow l ch l.length ++ endSt).toArray
  ord : ∀ k, k < l.length → IvOk g hi (iv k) (ch k).cases
  apart : ∀ j k, j < k → k < l.length → (iv j).hh ≤ (iv k).ll
  each : ∀ k, k < l.length → POpen w (nthS l k) (ch k) (cb k) (iv k) (lc k) (hc k)
theorem StsOwn.opened {w : World} {lo hi g : Nat} {l : List StD} (h : StsOwn w lo hi g l) : ∃ ch cb iv lc hc, SOpen w lo hi g l ch cb iv lc hc := by
  obtain @⟨_, _, _, _, ch, cb, iv, lc, hc, low, lt, row, ord, apart, ea, eb, body, els, crow, cinto, capart, cbody⟩ := h
  exact ⟨ch, cb, iv, lc, hc, low, lt, row, ord, apart, fun k hk => ⟨ea k hk, eb k hk, body k hk, els k hk, crow k hk, cinto k hk, capart k hk, cbody k hk⟩⟩
theorem SOpen.own {w : World} {lo hi g : Nat} {l : List StD} {ch : Nat → Ch} {cb : Nat → Nat → Nat} {iv : Nat → Iv} {lc hc : Nat → Nat → Nat} (h : SOpen w lo hi g l ch cb iv lc hc) : StsOwn w lo hi g l :=
  .mk ch cb iv lc hc h.low h.lt h.row h.ord h.apart (fun k hk => (h.each k hk).ea) (fun k hk => (h.each k hk).eb) (fun k hk => (h.each k hk).body) (fun k hk => (h.each k hk).els) (fun k hk => (h.each k hk).crow)
    (fun k hk => (h.each k hk).cinto) (fun k hk => (h.each k hk).capart) (fun k hk => (h.each k hk).cbody)
theorem POpen.keep {w w' : World} {x : StD} {c : Ch} {cb : Nat → Nat} {v : Iv} {lc hc : Nat → Nat} {g hi : Nat} (h : POpen w x c cb v lc hc) (o : IvOk g hi v c.cases) (ha : Agree v.ll v.hh w w') : POpen w' x c cb v lc hc := by
  obtain ⟨o0, o1, o2, o3, o4, o5, o6, o7, o8, o9, o10, o11⟩ := o
  exact ⟨h.ea.keep (ha.sub (by omega) (by omega)), h.eb.keep (ha.sub (by omega) (by omega)), h.body.keep (ha.sub (by omega) (by omega)), h.els.keep (ha.sub (by omega) (by omega)), (ha _ (by omega) (by omega)).trans h.crow,
    h.cinto, h.capart, fun j hj => (h.cbody j hj).keep (ha.sub (by have := h.cinto j hj; omega) (by have := h.cinto j hj; omega))⟩
theorem nthS_set {l : List StD} {k j : Nat} {x : StD} (hk : k < l.length) : nthS (l.set k x) j = if j = k then x else nthS l j := by
  simp only [nthS, List.getD_eq_getElem?_getD, List.getElem?_set]
  by_cases e : k = j
  · subst e; simp [hk]
  · rw [if_neg e, if_neg (fun h => e h.symm)]
theorem nthC_set {l : List CaD} {k j : Nat} {x : CaD} (hk : k < l.length) : nthC (l.set k x) j = if j = k then x else nthC l j := by
  simp only [nthC, List.getD_eq_getElem?_getD, List.getElem?_set]
  by_cases e : k = j
  · subst e; simp [hk]
  · rw [if_neg e, if_neg (fun h => e h.symm)]
theorem nthF_set {l : List FnD} {k j : Nat} {x : FnD} (hk : k < l.length) : nthF (l.set k x) j = if j = k then x else nthF l j := by
  simp only [nthF, List.getD_eq_getElem?_getD, List.getElem?_set]
  by_cases e : k = j
  · subst e; simp [hk]
  · rw [if_neg e, if_neg (fun h => e h.symm)]
theorem SOpen.put {w w' : World} {lo hi g : Nat} {l : List StD} {ch : Nat → Ch} {cb : Nat → Nat → Nat} {iv : Nat → Iv} {lc hc : Nat → Nat → Nat} (h : SOpen w lo hi g l ch cb iv lc hc) {k : Nat} (hk : k < l.length) (x : StD)
    (hr : Whl w' g 53 (stRow (l.set k x) ch l.length ++ endSt).toArray) (ho : ∀ b, lo ≤ b → b < hi → b ≠ g → ¬ ((iv k).ll ≤ b ∧ b < (iv k).hh) → w'.heap[b]? = w.heap[b]?)
    (hp : POpen w' x (ch k) (cb k) (iv k) (lc k) (hc k)) : SOpen w' lo hi g (l.set k x) ch cb iv lc hc := by
  refine ⟨h.low, h.lt, by rw [List.length_set]; exact hr, fun j hj => h.ord j (by simpa using hj), fun i j hij hj => h.apart i j hij (by simpa using hj), fun j hj => ?_⟩
  rw [List.length_set] at hj
  rw [nthS_set hk]
  split
  · next e => subst e; exact hp
  · next e =>
    refine (h.each j hj).keep (h.ord j hj) fun b h1 h2 => ?_
    have o := h.ord j hj
    have ok := h.ord k hk
    have := o.g
    have := o.hi
    have := h.low
    refine ho b (by omega) (by omega) (by omega) fun hb => ?_
    rcases Nat.lt_or_gt_of_ne e with c | c
    · have := h.apart j k c hk; omega
    · have := h.apart k j c hj; omega
theorem SOpen.keep {w w' : World} {lo hi g : Nat} {l : List StD} {ch : Nat → Ch} {cb : Nat → Nat → Nat} {iv : Nat → Iv} {lc hc : Nat → Nat → Nat} (h : SOpen w lo hi g l ch cb iv lc hc) (ha : Agree lo hi w w') : SOpen w' lo hi g l ch cb iv lc hc := by
  refine ⟨h.low, h.lt, (ha g h.low h.lt).trans h.row, h.ord, h.apart, fun k hk => (h.each k hk).keep (h.ord k hk) (ha.sub ?_ ?_)⟩
  · have := (h.ord k hk).g; have := h.low; omega
  · exact (h.ord k hk).hi
/-- A row in which one statement keeps its cells. -/
theorem stRow_same {l : List StD} {ch : Nat → Ch} {k : Nat} {x : StD} (hk : k < l.length) (e : sL x (ch k) = sL (nthS l k) (ch k)) : ∀ n, stRow (l.set k x) ch n = stRow l ch n
  | 0 => rfl
  | n + 1 => by
    rw [stRow_succ, stRow_succ, stRow_same hk e n, nthS_set hk]
    split
    · next h => subst h; rw [e]
    · rfl
/-- .. in which one gets another kind. -/
theorem stRow_kind {l : List StD} {ch : Nat → Ch} {k : Nat} {x : StD} {v : Value} (hk : k < l.length) (e : sL x (ch k) = (sL (nthS l k) (ch k)).set 0 v) : ∀ n, k < n → n ≤ l.length → (stRow l ch n).set (k * 14) v = stRow (l.set k x) ch n
  | n + 1, h, hn => by
    rw [stRow_succ, stRow_succ, nthS_set hk]
    by_cases c : n = k
    · subst c
      rw [if_pos rfl, List.set_append_right _ _ (by rw [stRow_len]; omega), stRow_len, Nat.sub_self, e]
      congr 1
      have : ∀ m, m ≤ n → stRow l ch m = stRow (l.set n x) ch m := by
        intro m hm
        induction m with
        | zero => rfl
        | succ m ih => rw [stRow_succ, stRow_succ, ih (by omega), nthS_set hk, if_neg (by omega)]
      exact this n (Nat.le_refl _)
    · rw [if_neg c, List.set_append_left _ _ (by rw [stRow_len]; omega), stRow_kind hk e n (by omega) (by omega)]
theorem stRow_put {l : List StD} {ch : Nat → Ch} {k : Nat} {x : StD} {v : Value} (hk : k < l.length) (e : sL x (ch k) = (sL (nthS l k) (ch k)).set 0 v) :
    (stRow l ch l.length ++ endSt).toArray.setIfInBounds (k * 14) v = (stRow (l.set k x) ch l.length ++ endSt).toArray := by
  rw [List.setIfInBounds_toArray, List.set_append_left _ _ (by rw [stRow_len]; omega), stRow_kind hk e l.length hk (Nat.le_refl _)]
theorem caRow_same {l : List CaD} {ch : Nat → Nat} {k : Nat} {x : CaD} (hk : k < l.length) (e : cL x (ch k) = cL (nthC l k) (ch k)) : ∀ n, caRow (l.set k x) ch n = caRow l ch n
  | 0 => rfl
  | n + 1 => by
    rw [caRow_succ, caRow_succ, caRow_same hk e n, nthC_set hk]
    split
    · next h => subst h; rw [e]
    · rfl
/-- The body of one statement gets other contents. -/
theorem POpen.putBody {w w' : World} {x : StD} {c : Ch} {cb : Nat → Nat} {v : Iv} {lc hc : Nat → Nat} {g hi : Nat} (h : POpen w x c cb v lc hc) (o : IvOk g hi v c.cases) {l : List StD} (hs : StsOwn w' v.lB v.hB c.body l)
    (ha : ∀ b, v.ll ≤ b → b < v.hh → ¬ (v.lB ≤ b ∧ b < v.hB) → w'.heap[b]? = w.heap[b]?) : POpen w' (.mk x.kind x.name x.n x.a x.b l x.els x.cases) c cb v lc hc := by
  obtain ⟨o0, o1, o2, o3, o4, o5, o6, o7, o8, o9, o10, o11⟩ := o
  refine ⟨h.ea.keep fun j _ _ => ha j (by omega) (by omega) (by omega), h.eb.keep fun j _ _ => ha j (by omega) (by omega) (by omega), hs, h.els.keep fun j _ _ => ha j (by omega) (by omega) (by omega), (ha _ (by omega) (by omega) (by omega)).trans h.crow, h.cinto, h.capart, fun j hj => (h.cbody j hj).keep fun b _ _ => ?_⟩
  have := h.cinto j hj
  exact ha b (by omega) (by omega) (by omega)
theorem POpen.putEls {w w' : World} {x : StD} {c : Ch} {cb : Nat → Nat} {v : Iv} {lc hc : Nat → Nat} {g hi : Nat} (h : POpen w x c cb v lc hc) (o : IvOk g hi v c.cases) {l : List StD} (hs : StsOwn w' v.lE v.hE c.els l)
    (ha : ∀ b, v.ll ≤ b → b < v.hh → ¬ (v.lE ≤ b ∧ b < v.hE) → w'.heap[b]? = w.heap[b]?) : POpen w' (.mk x.kind x.name x.n x.a x.b x.body l x.cases) c cb v lc hc := by
  obtain ⟨o0, o1, o2, o3, o4, o5, o6, o7, o8, o9, o10, o11⟩ := o
  refine ⟨h.ea.keep fun j _ _ => ha j (by omega) (by omega) (by omega), h.eb.keep fun j _ _ => ha j (by omega) (by omega) (by omega), h.body.keep fun j _ _ => ha j (by omega) (by omega) (by omega), hs, (ha _ (by omega) (by omega) (by omega)).trans h.crow, h.cinto, h.capart, fun j hj => (h.cbody j hj).keep fun b _ _ => ?_⟩
  have := h.cinto j hj
  exact ha b (by omega) (by omega) (by omega)
theorem POpen.putCase {w w' : World} {x : StD} {c : Ch} {cb : Nat → Nat} {v : Iv} {lc hc : Nat → Nat} {g hi i : Nat} (h : POpen w x c cb v lc hc) (o : IvOk g hi v c.cases) (hi : i < x.cases.length) {l : List StD} (hl : l.length = (nthC x.cases i).body.length) (hs : StsOwn w' (lc i) (hc i) (cb i) l)
    (ha : ∀ b, v.ll ≤ b → b < v.hh → ¬ (lc i ≤ b ∧ b < hc i) → w'.heap[b]? = w.heap[b]?) : POpen w' (.mk x.kind x.name x.n x.a x.b x.body x.els (x.cases.set i (.mk (nthC x.cases i).n l))) c cb v lc hc := by
  obtain ⟨o0, o1, o2, o3, o4, o5, o6, o7, o8, o9, o10, o11⟩ := o
  have hci := h.cinto i hi
  have hle := hs.le
  refine ⟨h.ea.keep fun j _ _ => ha j (by omega) (by omega) (by omega), h.eb.keep fun j _ _ => ha j (by omega) (by omega) (by omega), h.body.keep fun j _ _ => ha j (by omega) (by omega) (by omega), h.els.keep fun j _ _ => ha j (by omega) (by omega) (by omega), ?_, fun j hj => h.cinto j (by simpa [StD.cases] using hj), fun a b hab hb => h.capart a b hab (by simpa [StD.cases] using hb), fun j hj => ?_⟩
  · refine (ha _ (by omega) (by omega) (by omega)).trans ?_
    show Whl w c.cases 89 (caRow (x.cases.set i (.mk (nthC x.cases i).n l)) cb (x.cases.set i (.mk (nthC x.cases i).n l)).length ++ endCa).toArray
    rw [List.length_set, caRow_same hi (by simp only [cL, CaD.n, CaD.body, hl])]
    exact h.crow
  · have hj' : j < x.cases.length := by simpa [StD.cases] using hj
    clear hj
    show StsOwn w' (lc j) (hc j) (cb j) (nthC (x.cases.set i (.mk (nthC x.cases i).n l)) j).body
    rw [nthC_set hi]
    split
    · next e => subst e; exact hs
    · next e =>
      refine (h.cbody j hj').keep fun b h1 h2 => ?_
      have := h.cinto j hj'
      refine ha b (by omega) (by omega) fun hb => ?_
      rcases Nat.lt_or_gt_of_ne e with d | d
      · have := h.capart j i d hi; omega
      · have := h.capart i j d hj'; omega
/-! ### One statement loses its kind. -/
theorem numSs_snoc {l : List StD} {k : Nat} (h : k < l.length) : numSs (l.take (k + 1)) = numSs (l.take k) + numS (nthS l k) :=
  fold_snoc (op := (· + ·)) (e := 0) Nat.zero_add Nat.add_zero Nat.add_assoc (by rw [numSs]) (fun x r => by rw [numSs]) _ h
theorem numCs_snoc {l : List CaD} {k : Nat} (h : k < l.length) : numCs (l.take (k + 1)) = numCs (l.take k) + numC (nthC l k) :=
  fold_snoc (op := (· + ·)) (e := 0) Nat.zero_add Nat.add_zero Nat.add_assoc (by rw [numCs]) (fun x r => by rw [numCs]) _ h
theorem numSs_cut (l : List StD) (k : Nat) : numSs l = numSs (l.take k) + numSs (l.drop k) := fold_cut (op := (· + ·)) (e := 0) (g := numS) Nat.zero_add Nat.add_assoc (by rw [numSs]) (fun x r => by rw [numSs]) l k
theorem numCs_cut (l : List CaD) (k : Nat) : numCs l = numCs (l.take k) + numCs (l.drop k) := fold_cut (op := (· + ·)) (e := 0) (g := numC) Nat.zero_add Nat.add_assoc (by rw [numCs]) (fun x r => by rw [numCs]) l k
theorem brkSs_snoc : ∀ {l : List StD} {k : Nat} (t : Nat), k < l.length → brkSs (l.take (k + 1)) t = brkSs (l.take k) t ++ [brkS (nthS l k) (t - numSs (l.take k))]
  | x :: r, 0, t, _ => by simp [brkSs, numSs, nthS]
  | x :: r, k + 1, t, h => by
    have := brkSs_snoc (l := r) (k := k) (t - numS x) (by simpa using h)
    rw [List.take_succ_cons, brkSs, this, List.take_succ_cons, brkSs, numSs, Nat.sub_sub]; rfl
theorem brkCs_snoc : ∀ {l : List CaD} {k : Nat} (t : Nat), k < l.length → brkCs (l.take (k + 1)) t = brkCs (l.take k) t ++ [brkC (nthC l k) (t - numCs (l.take k))]
  | x :: r, 0, t, _ => by simp [brkCs, numCs, nthC]
  | x :: r, k + 1, t, h => by
    have := brkCs_snoc (l := r) (k := k) (t - numC x) (by simpa using h)
    rw [List.take_succ_cons, brkCs, this, List.take_succ_cons, brkCs, numCs, Nat.sub_sub]; rfl
/-- The first k have been gone through. -/
def mixS (l : List StD) (t k : Nat) : List StD := brkSs (l.take k) t ++ l.drop k
def mixC (l : List CaD) (t k : Nat) : List CaD := brkCs (l.take k) t ++ l.drop k
theorem mixS_0 (l : List StD) (t : Nat) : mixS l t 0 = l := by simp [mixS, brkSs]
theorem mixC_0 (l : List CaD) (t : Nat) : mixC l t 0 = l := by simp [mixC, brkCs]
theorem mixS_all (l : List StD) (t : Nat) : mixS l t l.length = brkSs l t := by simp [mixS]
theorem mixC_all (l : List CaD) (t : Nat) : mixC l t l.length = brkCs l t := by simp [mixC]
theorem mixS_len {l : List StD} {k : Nat} (t : Nat) (h : k ≤ l.length) : (mixS l t k).length = l.length := by simp [mixS, brkSs_len]; omega
theorem mixC_len {l : List CaD} {k : Nat} (t : Nat) (h : k ≤ l.length) : (mixC l t k).length = l.length := by simp [mixC, brkCs_len]; omega
theorem mixS_at {l : List StD} {k : Nat} (t : Nat) (h : k < l.length) : nthS (mixS l t k) k = nthS l k := by
  have e : (brkSs (l.take k) t).length = k := by rw [brkSs_len, List.length_take]; omega
  simp only [nthS, mixS, List.getD_eq_getElem?_getD]
  rw [List.getElem?_append_right (by omega), e, Nat.sub_self, List.getElem?_drop, Nat.add_zero]
theorem mixC_at {l : List CaD} {k : Nat} (t : Nat) (h : k < l.length) : nthC (mixC l t k) k = nthC l k := by
  have e : (brkCs (l.take k) t).length = k := by rw [brkCs_len, List.length_take]; omega
  simp only [nthC, mixC, List.getD_eq_getElem?_getD]
  rw [List.getElem?_append_right (by omega), e, Nat.sub_self, List.getElem?_drop, Nat.add_zero]
theorem mixS_succ {l : List StD} {k : Nat} (t : Nat) (h : k < l.length) : mixS l t (k + 1) = (mixS l t k).set k (brkS (nthS l k) (t - numSs (l.take k))) := by
  have e : (brkSs (l.take k) t).length = k := by rw [brkSs_len, List.length_take]; omega
  rw [mixS, mixS, brkSs_snoc t h, List.set_append_right _ _ (by omega), e, Nat.sub_self, List.drop_eq_getElem_cons h, List.set_cons_zero, List.append_assoc]; rfl
theorem mixC_succ {l : List CaD} {k : Nat} (t : Nat) (h : k < l.length) : mixC l t (k + 1) = (mixC l t k).set k (brkC (nthC l k) (t - numCs (l.take k))) := by
  have e : (brkCs (l.take k) t).length = k := by rw [brkCs_len, List.length_take]; omega
  rw [mixC, mixC, brkCs_snoc t h, List.set_append_right _ _ (by omega), e, Nat.sub_self, List.drop_eq_getElem_cons h, List.set_cons_zero, List.append_assoc]; rfl
theorem brkS_eq (x : StD) (t : Nat) : brkS x t = .mk (if t = 1 then 0 else x.kind) x.name x.n x.a x.b (brkSs x.body (t - 1)) (brkSs x.els (t - 1 - numSs x.body - numCs x.cases)) (brkCs x.cases (t - 1 - numSs x.body)) := by cases x; rw [brkS]; rfl
theorem brkC_eq (x : CaD) (t : Nat) : brkC x t = .mk x.n (brkSs x.body t) := by cases x; rw [brkC]; rfl
theorem numS_eq (x : StD) : numS x = 1 + numSs x.body + numCs x.cases + numSs x.els := by cases x; rw [numS]; rfl
theorem numC_eq (x : CaD) : numC x = numSs x.body := by cases x; rw [numC]; rfl
mutual
theorem numS_cnt : ∀ x : StD, numS x ≤ cntS x
  | .mk k s n a b body els cases => by
    have h1 := numSs_cnt body; have h2 := numSs_cnt els; have h3 := numCs_cnt cases
    rw [numS, cntS]; omega
theorem numC_cnt : ∀ x : CaD, numC x ≤ cntC x
  | .mk n body => by have h1 := numSs_cnt body; rw [numC, cntC]; omega
theorem numSs_cnt : ∀ l : List StD, numSs l ≤ cntSs l
  | [] => by rw [numSs]; omega
  | x :: r => by have h1 := numS_cnt x; have h2 := numSs_cnt r; rw [numSs, cntSs]; omega
theorem numCs_cnt : ∀ l : List CaD, numCs l ≤ cntCs l
  | [] => by rw [numCs]; omega
  | x :: r => by have h1 := numC_cnt x; have h2 := numCs_cnt r; rw [numCs, cntCs]; omega
end
/-! ### Bounds of what has been changed. -/
inductive StsWf (w0 : World) (B0 : Nat) : List StD → Prop where
  | mk {l : List StD} (len : l.length * 216 ≤ 140737488351232) (wf : ∀ k, k < l.length → StWf (nthS l k)) (ea : ∀ k, k < l.length → ∃ A, ExsAt w0 B0 A (nthS l k).a.args) (eb : ∀ k, k < l.length → ∃ A, ExsAt w0 B0 A (nthS l k).b.args)
      (body : ∀ k, k < l.length → StsWf w0 B0 (nthS l k).body) (els : ∀ k, k < l.length → StsWf w0 B0 (nthS l k).els) (clen : ∀ k, k < l.length → (nthS l k).cases.length * 32 ≤ 140737488351232)
      (cwf : ∀ k, k < l.length → ∀ j, j < (nthS l k).cases.length → In64 (nthC (nthS l k).cases j).n) (cbody : ∀ k, k < l.length → ∀ j, j < (nthS l k).cases.length → StsWf w0 B0 (nthC (nthS l k).cases j).body) : StsWf w0 B0 l
theorem StsAt.wfs {w : World} {B : Nat} {A : Option Addr} {l : List StD} (h : StsAt w B A l) : StsWf w B l := by
  induction h with
  | @mk A l hd hcs len rows wf ea eb body els clen crow cwf cbody ih1 ih2 ih3 => exact .mk len wf (fun k hk => ⟨_, ea k hk⟩) (fun k hk => ⟨_, eb k hk⟩) ih1 ih2 clen cwf ih3
theorem brkSs_nth : ∀ {l : List StD} {k : Nat} (t : Nat), k < l.length → nthS (brkSs l t) k = brkS (nthS l k) (t - numSs (l.take k))
  | x :: r, 0, t, _ => by simp [brkSs, numSs, nthS]
  | x :: r, k + 1, t, h => by
    have := brkSs_nth (l := r) (k := k) (t - numS x) (by simpa using h)
    rw [brkSs, List.take_succ_cons, numSs, ← Nat.sub_sub]; exact this
theorem brkCs_nth : ∀ {l : List CaD} {k : Nat} (t : Nat), k < l.length → nthC (brkCs l t) k = brkC (nthC l k) (t - numCs (l.take k))
  | x :: r, 0, t, _ => by simp [brkCs, numCs, nthC]
  | x :: r, k + 1, t, h => by
    have := brkCs_nth (l := r) (k := k) (t - numC x) (by simpa using h)
    rw [brkCs, List.take_succ_cons, numCs, ← Nat.sub_sub]; exact this
theorem StsWf.brk {w0 : World} {B0 : Nat} {l : List StD} (h : StsWf w0 B0 l) : ∀ t, StsWf w0 B0 (brkSs l t) := by
  induction h with
  | @mk l len wf ea eb body els clen cwf cbody ih1 ih2 ih3 =>
    intro t
    refine .mk (by rw [brkSs_len]; exact len) (fun k hk => ?_) (fun k hk => ?_) (fun k hk => ?_) (fun k hk => ?_) (fun k hk => ?_) (fun k hk => ?_) (fun k hk j hj => ?_) (fun k hk j hj => ?_)
    all_goals
      rw [brkSs_len] at hk
      rw [brkSs_nth t hk, brkS_eq] at *
    · have h := wf k hk
      exact ⟨by simp only [StD.kind]; split <;> first | exact (by unfold In64; omega) | exact h.kind, h.n, h.name, h.a, h.b⟩
    · exact ea k hk
    · exact eb k hk
    · exact ih1 k hk _
    · exact ih2 k hk _
    · simp only [StD.cases, brkCs_len]; exact clen k hk
    · simp only [StD.cases, brkCs_len] at hj ⊢
      rw [brkCs_nth _ hj, brkC_eq]; exact cwf k hk j hj
    · simp only [StD.cases, brkCs_len] at hj ⊢
      rw [brkCs_nth _ hj, brkC_eq]; exact ih3 k hk j hj _
theorem StsOwn.atw {w : World} {lo hi g : Nat} {l : List StD} {w0 : World} {B0 : Nat} (h : StsOwn w lo hi g l) (h0 : StsWf w0 B0 l) : StsAt w w.heap.size (some ⟨g, 0, none⟩) l := by
  induction h with
  | @mk lo hi g l ch cb iv lc hc low lt row ord apart ea eb body els crow cinto capart cbody ih1 ih2 ih3 =>
    obtain @⟨_, len, wf, ea0, eb0, body0, els0, clen, cwf, cbody0⟩ := h0
    refine .mk (fun k => hdOf (nthS l k) (ch k)) (fun k j => ⟨some ⟨cb k j, 0, none⟩, (nthC (nthS l k).cases j).body.length + 1⟩) len (fun _ => ⟨g, 0, rfl, row.lt, fun k hk j hj => ?_⟩) wf (fun k hk => (ea k hk).at_ (ea0 k hk).choose_spec) (fun k hk => (eb k hk).at_ (eb0 k hk).choose_spec)
      (fun k hk => ih1 k hk (body0 k hk)) (fun k hk => ih2 k hk (els0 k hk)) clen (fun k hk _ => ⟨(ch k).cases, 0, rfl, (crow k hk).lt, fun j hj i hi => ?_⟩) cwf (fun k hk j hj => ih3 k hk j hj (cbody0 k hk j hj))
    · rw [Nat.zero_add]
      refine (row.cell _).trans ?_
      rw [List.getElem?_toArray, List.getElem?_append_left (by rw [stRow_len]; omega)]
      exact stRow_get hk hj
    · rw [Nat.zero_add]
      refine ((crow k hk).cell _).trans ?_
      rw [List.getElem?_toArray, List.getElem?_append_left (by rw [caRow_len]; omega)]
      exact caRow_get hj hi
end Go.Proofs.YtdddppmfeoebgaaDoor

/-
  Layer 2 (tree): one statement of a row in blocks of its own, while it is changed; plain.
-/
namespace Go.Proofs.YtdddppmfeoebgaaDoor
open Go.RowKit
set_option linter.unusedSimpArgs false
set_option linter.unusedVariables false
theorem stRow_alt {l : List StD} {ch : Nat → Ch} {k : Nat} {x y : StD} (hk : k < l.length) (e : sL y (ch k) = sL x (ch k)) (n : Nat) : stRow (l.set k y) ch n = stRow (l.set k x) ch n := by
  have h : (l.set k x).set k y = l.set k y := List.set_set ..
  rw [← h]
  exact stRow_same (l := l.set k x) (by simpa using hk) (by rw [nthS_set hk, if_pos rfl]; exact e) n
theorem stRow_self {l : List StD} {ch : Nat → Ch} {k : Nat} (hk : k < l.length) (n : Nat) : stRow (l.set k (nthS l k)) ch n = stRow l ch n := stRow_same hk rfl n
/-- Row g while its statement k is y; wr is the world at the round's head, v what the box counts. -/
structure TMid (wr W : World) (lo hi g bx : Nat) (m : List StD) (ch : Nat → Ch) (cb : Nat → Nat → Nat) (iv : Nat → Iv) (lc hc : Nat → Nat → Nat) (k : Nat) (y : StD) (v : Int) : Prop where
  row : Whl W g 53 (stRow (m.set k y) ch m.length ++ endSt).toArray
  pop : POpen W y (ch k) (cb k) (iv k) (lc k) (hc k)
  box : Whl W bx 3 #[.int .i64 v]
  mod : Mod (fun b => ((iv k).ll ≤ b ∧ b < (iv k).hh) ∨ b = g ∨ b = bx) wr W
variable {wr W W2 : World} {lo hi g bx : Nat} {m : List StD} {ch : Nat → Ch} {cb : Nat → Nat → Nat} {iv : Nat → Iv} {lc hc : Nat → Nat → Nat} {k : Nat} {y : StD} {v v2 : Int}
theorem TMid.cell (h : TMid wr W lo hi g bx m ch cb iv lc hc k y v) (hk : k < m.length) {j : Nat} (hj : j < 14) : W.cell? ⟨g, k * 14 + j, none⟩ = some (stV y (hdOf y (ch k)) j) := by
  refine (h.row.cell _).trans ?_
  rw [List.getElem?_toArray, List.getElem?_append_left (by rw [stRow_len]; omega)]
  have := stRow_get (l := m.set k y) (ch := ch) hk hj
  rwa [nthS_set hk, if_pos rfl] at this
theorem TMid.cells (h : TMid wr W lo hi g bx m ch cb iv lc hc k y v) (hk : k < m.length) :
    W.cell? ⟨g, k * 14 + 11, none⟩ = some (.slice (some ⟨(ch k).body, 0, none⟩) y.body.length (y.body.length + 1)) ∧ W.cell? ⟨g, k * 14 + 12, none⟩ = some (.slice (some ⟨(ch k).els, 0, none⟩) y.els.length (y.els.length + 1)) ∧ W.cell? ⟨g, k * 14 + 13, none⟩ = some (.slice (some ⟨(ch k).cases, 0, none⟩) y.cases.length (y.cases.length + 1)) :=
  ⟨h.cell hk (j := 11) (by omega), h.cell hk (j := 12) (by omega), h.cell hk (j := 13) (by omega)⟩
theorem TMid.case (h : TMid wr W lo hi g bx m ch cb iv lc hc k y v) {j : Nat} (hj : j < y.cases.length) : W.cell? ⟨(ch k).cases, j * 2 + 1, none⟩ = some (.slice (some ⟨cb k j, 0, none⟩) (nthC y.cases j).body.length ((nthC y.cases j).body.length + 1)) := by
  refine (h.pop.crow.cell _).trans ?_
  rw [List.getElem?_toArray, List.getElem?_append_left (by rw [caRow_len]; omega)]
  exact caRow_get hj (by omega)
theorem TMid.no (HO : SOpen wr lo hi g m ch cb iv lc hc) (hk : k < m.length) (hbx : Whl wr bx 3 #[.int .i64 v]) (hout : bx < lo ∨ hi ≤ bx) (v2 : Int) : TMid wr (wr.setCell ⟨bx, 0, none⟩ (.int .i64 v2)) lo hi g bx m ch cb iv lc hc k (nthS m k) v2 := by
  have o := HO.ord k hk
  have := o.g; have := o.hi; have := HO.low; have := HO.lt
  refine ⟨?_, (HO.each k hk).keep o fun b _ _ => Below.heap_setCell _ _ _ _ (by simp only; omega), hbx.put 0 _, (Mod.refl _ _).setCell (.inr (.inr rfl)) _⟩
  rw [stRow_self hk]
  exact HO.row.far (by simp only; omega) _
theorem TMid.hit (HO : SOpen wr lo hi g m ch cb iv lc hc) (hk : k < m.length) (hbx : Whl wr bx 3 #[.int .i64 v]) (hout : bx < lo ∨ hi ≤ bx) (v2 : Int) :
    TMid wr ((wr.setCell ⟨bx, 0, none⟩ (.int .i64 v2)).setCell ⟨g, k * 14, none⟩ (.int .i64 0)) lo hi g bx m ch cb iv lc hc k (.mk 0 (nthS m k).name (nthS m k).n (nthS m k).a (nthS m k).b (nthS m k).body (nthS m k).els (nthS m k).cases) v2 := by
  have o := HO.ord k hk
  have := o.g; have := o.hi; have := HO.low; have := HO.lt
  have h0 := TMid.no HO hk hbx hout v2
  refine ⟨?_, ?_, h0.box.far (by simp only; omega) _, h0.mod.setCell (.inr (.inl rfl)) _⟩
  · have h1 := (HO.row.far (p := ⟨bx, 0, none⟩) (by simp only; omega) (.int .i64 v2)).put (k * 14) (.int .i64 0)
    rwa [stRow_put (ch := ch) (v := .int .i64 0) hk (x := .mk 0 (nthS m k).name (nthS m k).n (nthS m k).a (nthS m k).b (nthS m k).body (nthS m k).els (nthS m k).cases) rfl] at h1
  · have h1 := h0.pop.keep (w' := (wr.setCell ⟨bx, 0, none⟩ (.int .i64 v2)).setCell ⟨g, k * 14, none⟩ (.int .i64 0)) o fun b _ _ => Below.heap_setCell _ _ _ _ (by simp only; omega)
    exact ⟨h1.ea, h1.eb, h1.body, h1.els, h1.crow, h1.cinto, h1.capart, h1.cbody⟩
theorem TMid.body (h : TMid wr W lo hi g bx m ch cb iv lc hc k y v) (HO : SOpen wr lo hi g m ch cb iv lc hc) (hk : k < m.length) (hhi : hi ≤ W.heap.size) (hout : bx < lo ∨ hi ≤ bx) {l : List StD} (hl : l.length = y.body.length) (hs : StsOwn W2 (iv k).lB (iv k).hB (ch k).body l)
    (hb : Whl W2 bx 3 #[.int .i64 v2]) (hm : Mod (fun b => ((iv k).lB ≤ b ∧ b < (iv k).hB) ∨ b = bx) W W2) : TMid wr W2 lo hi g bx m ch cb iv lc hc k (.mk y.kind y.name y.n y.a y.b l y.els y.cases) v2 := by
  have o := HO.ord k hk
  have low := HO.low
  have lt := HO.lt
  have HP := h.pop.putBody o hs fun b h1 h2 h3 => hm.block b (by have := o.hi; omega) (by have := o.hi; have := o.g; omega)
  obtain ⟨o0, o1, o2, o3, o4, o5, o6, o7, o8, o9, o10, o11⟩ := o
  refine ⟨?_, HP, hb, h.mod.trans (hm.mono fun b _ hx => ?_)⟩
  · have := hm.whl h.row (by omega)
    rwa [stRow_alt hk (x := y)]
    simp only [sL, stC, hdOf, StD.kind, StD.name, StD.n, StD.a, StD.b, StD.body, StD.els, StD.cases, hl]
  · omega
theorem TMid.els (h : TMid wr W lo hi g bx m ch cb iv lc hc k y v) (HO : SOpen wr lo hi g m ch cb iv lc hc) (hk : k < m.length) (hhi : hi ≤ W.heap.size) (hout : bx < lo ∨ hi ≤ bx) {l : List StD} (hl : l.length = y.els.length) (hs : StsOwn W2 (iv k).lE (iv k).hE (ch k).els l)
    (hb : Whl W2 bx 3 #[.int .i64 v2]) (hm : Mod (fun b => ((iv k).lE ≤ b ∧ b < (iv k).hE) ∨ b = bx) W W2) : TMid wr W2 lo hi g bx m ch cb iv lc hc k (.mk y.kind y.name y.n y.a y.b y.body l y.cases) v2 := by
  have o := HO.ord k hk
  have low := HO.low
  have lt := HO.lt
  have HP := h.pop.putEls o hs fun b h1 h2 h3 => hm.block b (by have := o.hi; omega) (by have := o.hi; have := o.g; omega)
  obtain ⟨o0, o1, o2, o3, o4, o5, o6, o7, o8, o9, o10, o11⟩ := o
  refine ⟨?_, HP, hb, h.mod.trans (hm.mono fun b _ hx => ?_)⟩
  · have := hm.whl h.row (by omega)
    rwa [stRow_alt hk (x := y)]
    simp only [sL, stC, hdOf, StD.kind, StD.name, StD.n, StD.a, StD.b, StD.body, StD.els, StD.cases, hl]
  · omega
theorem TMid.caseOf (h : TMid wr W lo hi g bx m ch cb iv lc hc k y v) (HO : SOpen wr lo hi g m ch cb iv lc hc) (hk : k < m.length) (hhi : hi ≤ W.heap.size) (hout : bx < lo ∨ hi ≤ bx) {j : Nat} (hj : j < y.cases.length) {l : List StD} (hl : l.length = (nthC y.cases j).body.length) (hs : StsOwn W2 (lc k j) (hc k j) (cb k j) l)
    (hb : Whl W2 bx 3 #[.int .i64 v2]) (hm : Mod (fun b => (lc k j ≤ b ∧ b < hc k j) ∨ b = bx) W W2) : TMid wr W2 lo hi g bx m ch cb iv lc hc k (.mk y.kind y.name y.n y.a y.b y.body y.els (y.cases.set j (.mk (nthC y.cases j).n l))) v2 := by
  have o := HO.ord k hk
  have low := HO.low
  have lt := HO.lt
  have ci := h.pop.cinto j hj
  have HP := h.pop.putCase o hj hl hs fun b h1 h2 h3 => hm.block b (by have := o.hi; omega) (by have := o.hi; have := o.g; omega)
  obtain ⟨o0, o1, o2, o3, o4, o5, o6, o7, o8, o9, o10, o11⟩ := o
  refine ⟨?_, HP, hb, h.mod.trans (hm.mono fun b _ hx => ?_)⟩
  · have := hm.whl h.row (by omega)
    rwa [stRow_alt hk (x := y)]
    simp only [sL, stC, hdOf, StD.kind, StD.name, StD.n, StD.a, StD.b, StD.body, StD.els, StD.cases, List.length_set]
  · omega
theorem TMid.fin (h : TMid wr W lo hi g bx m ch cb iv lc hc k y v) (HO : SOpen wr lo hi g m ch cb iv lc hc) (hk : k < m.length) (hhi : hi ≤ wr.heap.size) (hout : bx < lo ∨ hi ≤ bx) : StsOwn W lo hi g (m.set k y) :=
  (HO.put hk y h.row (fun b h1 h2 h3 h4 => h.mod.block b (by omega) (by omega)) h.pop).own
theorem TMid.mod' (h : TMid wr W lo hi g bx m ch cb iv lc hc k y v) (HO : SOpen wr lo hi g m ch cb iv lc hc) (hk : k < m.length) : Mod (fun b => (lo ≤ b ∧ b < hi) ∨ b = bx) wr W := by
  have o := HO.ord k hk
  have low := HO.low
  have lt := HO.lt
  obtain ⟨o0, o1, o2, o3, o4, o5, o6, o7, o8, o9, o10, o11⟩ := o
  exact h.mod.mono fun b _ hx => by omega
theorem len_num : ∀ l : List StD, l.length ≤ numSs l
  | [] => by simp
  | x :: r => by have := len_num r; rw [List.length_cons, numSs, numS_eq]; omega
end Go.Proofs.YtdddppmfeoebgaaDoor

/-
  Layer 2 (tree): the cells of what lies in blocks of its own; plain.
-/
namespace Go.Proofs.YtdddppmfeoebgaaDoor
open Go.RowKit
set_option linter.unusedSimpArgs false
set_option linter.unusedVariables false
structure EOpen (w : World) (lo hi g : Nat) (l : List ExD) (ch lo' hi' : Nat → Nat) : Prop where
  low : lo ≤ g
  lt : g < hi
  row : Whl w g 48 (exRow l ch l.length ++ endE).toArray
  into : ∀ k, k < l.length → g < lo' k ∧ hi' k ≤ hi
  apart : ∀ j k, j < k → k < l.length → hi' j ≤ lo' k
  kids : ∀ k, k < l.length → ExsOwn w (lo' k) (hi' k) (ch k) (nthE l k).args
theorem ExsOwn.opened {w : World} {lo hi g : Nat} {l : List ExD} (h : ExsOwn w lo hi g l) : ∃ ch lo' hi', EOpen w lo hi g l ch lo' hi' := by
  obtain @⟨_, _, _, _, ch, lo', hi', low, lt, row, into, apart, kids⟩ := h
  exact ⟨ch, lo', hi', low, lt, row, into, apart, kids⟩
/-- The cells of a row from i on that are as they were. -/
def Rest (w : World) (g n i : Nat) (t : TypeId) (R : Array Value) : Prop := ∃ cur : Array Value, Whl w g t cur ∧ ∀ j, i ≤ j → j < n → cur[j]? = R[j]?
theorem Rest.of {w : World} {g n : Nat} {t : TypeId} {R : Array Value} (h : Whl w g t R) (i : Nat) : Rest w g n i t R := ⟨R, h, fun _ _ _ => rfl⟩
theorem Rest.more {w : World} {g n i j : Nat} {t : TypeId} {R : Array Value} (h : Rest w g n i t R) (hj : i ≤ j) : Rest w g n j t R := by
  obtain ⟨cur, a, b⟩ := h
  exact ⟨cur, a, fun k h1 h2 => b k (by omega) h2⟩
theorem Rest.put {w : World} {g n i k : Nat} {t : TypeId} {R : Array Value} (h : Rest w g n i t R) (hk : k < i) (v : Value) : Rest (w.setCell ⟨g, k, none⟩ v) g n i t R := by
  obtain ⟨cur, a, b⟩ := h
  refine ⟨_, a.put k v, fun j h1 h2 => ?_⟩
  rw [Array.getElem?_setIfInBounds, if_neg (by omega)]
  exact b j h1 h2
theorem Rest.cell {w : World} {g n i j : Nat} {t : TypeId} {R : Array Value} (h : Rest w g n i t R) (h1 : i ≤ j) (h2 : j < n) : w.cell? ⟨g, j, none⟩ = R[j]? := by
  obtain ⟨cur, a, b⟩ := h
  exact (a.cell j).trans (b j h1 h2)
theorem Rest.frozen {w : World} {g n i j : Nat} {t : TypeId} {R : Array Value} (h : Rest w g n i t R) : w.frozen? ⟨g, j, none⟩ = false := by
  obtain ⟨cur, a, b⟩ := h
  exact a.frozen j
theorem Rest.lt {w : World} {g n i : Nat} {t : TypeId} {R : Array Value} (h : Rest w g n i t R) : g < w.heap.size := by
  obtain ⟨cur, a, b⟩ := h
  exact a.lt
theorem Rest.mod {w w' : World} {g n i : Nat} {t : TypeId} {R : Array Value} {X : Nat → Prop} (h : Rest w g n i t R) (k : Mod X w w') (hx : ¬ X g) : Rest w' g n i t R := by
  obtain ⟨cur, a, b⟩ := h
  exact ⟨cur, k.whl a hx, b⟩
theorem exRow_at {l : List ExD} {ch : Nat → Nat} {k j : Nat} (hk : k < l.length) (hj : j < 4) : (exRow l ch l.length ++ endE).toArray[k * 4 + j]? = some (exV (nthE l k) ⟨some ⟨ch k, 0, none⟩, (nthE l k).args.length + 1⟩ j) := by
  rw [List.getElem?_toArray, List.getElem?_append_left (by rw [exRow_len]; omega)]
  exact exRow_get hk hj
theorem exRow_end {l : List ExD} {ch : Nat → Nat} : (exRow l ch l.length ++ endE).toArray[l.length * 4]? = some (.int .i64 (-77)) := by
  rw [List.getElem?_toArray, List.getElem?_append_right (by rw [exRow_len]; omega), exRow_len, Nat.sub_self]; rfl
theorem stRow_at {l : List StD} {ch : Nat → Ch} {k j : Nat} (hk : k < l.length) (hj : j < 14) : (stRow l ch l.length ++ endSt).toArray[k * 14 + j]? = some (stV (nthS l k) (hdOf (nthS l k) (ch k)) j) := by
  rw [List.getElem?_toArray, List.getElem?_append_left (by rw [stRow_len]; omega)]
  exact stRow_get hk hj
theorem stRow_end {l : List StD} {ch : Nat → Ch} : (stRow l ch l.length ++ endSt).toArray[l.length * 14]? = some (.int .i64 (-77)) := by
  rw [List.getElem?_toArray, List.getElem?_append_right (by rw [stRow_len]; omega), stRow_len, Nat.sub_self]; rfl
theorem caRow_at {l : List CaD} {ch : Nat → Nat} {k j : Nat} (hk : k < l.length) (hj : j < 2) : (caRow l ch l.length ++ endCa).toArray[k * 2 + j]? = some (caV (nthC l k) ⟨some ⟨ch k, 0, none⟩, (nthC l k).body.length + 1⟩ j) := by
  rw [List.getElem?_toArray, List.getElem?_append_left (by rw [caRow_len]; omega)]
  exact caRow_get hk hj
theorem caRow_end {l : List CaD} {ch : Nat → Nat} : (caRow l ch l.length ++ endCa).toArray[l.length * 2]? = some (.int .i64 (-77)) := by
  rw [List.getElem?_toArray, List.getElem?_append_right (by rw [caRow_len]; omega), caRow_len, Nat.sub_self]; rfl
theorem EOpen.c3 {w : World} {lo hi g : Nat} {l : List ExD} {ch lo' hi' : Nat → Nat} (h : EOpen w lo hi g l ch lo' hi') {k : Nat} (hk : k < l.length) : w.cell? ⟨g, k * 4 + 3, none⟩ = some (.slice (some ⟨ch k, 0, none⟩) (nthE l k).args.length ((nthE l k).args.length + 1)) := (h.row.cell _).trans (exRow_at hk (by omega))
theorem EOpen.last {w : World} {lo hi g : Nat} {l : List ExD} {ch lo' hi' : Nat → Nat} (h : EOpen w lo hi g l ch lo' hi') : w.cell? ⟨g, l.length * 4, none⟩ = some (.int .i64 (-77)) := (h.row.cell _).trans exRow_end
theorem SOpen.last {w : World} {lo hi g : Nat} {l : List StD} {ch : Nat → Ch} {cb : Nat → Nat → Nat} {iv : Nat → Iv} {lc hc : Nat → Nat → Nat} (h : SOpen w lo hi g l ch cb iv lc hc) : w.cell? ⟨g, l.length * 14, none⟩ = some (.int .i64 (-77)) := (h.row.cell _).trans stRow_end
theorem SOpen.st {w : World} {lo hi g : Nat} {l : List StD} {ch : Nat → Ch} {cb : Nat → Nat → Nat} {iv : Nat → Iv} {lc hc : Nat → Nat → Nat} (h : SOpen w lo hi g l ch cb iv lc hc) {k : Nat} (hk : k < l.length) :
    w.cell? ⟨g, k * 14, none⟩ = some (.int .i64 (nthS l k).kind) ∧ w.cell? ⟨g, k * 14 + 1, none⟩ = some (.string (nthS l k).name) ∧ w.cell? ⟨g, k * 14 + 2, none⟩ = some (.int .i64 (nthS l k).n) ∧ w.cell? ⟨g, k * 14 + 3, none⟩ = some (.int .i64 (nthS l k).a.kind) ∧ w.cell? ⟨g, k * 14 + 4, none⟩ = some (.int .i64 (nthS l k).a.n) ∧ w.cell? ⟨g, k * 14 + 5, none⟩ = some (.string (nthS l k).a.name) ∧ w.cell? ⟨g, k * 14 + 6, none⟩ = some (.slice (some ⟨(ch k).a, 0, none⟩) (nthS l k).a.args.length ((nthS l k).a.args.length + 1)) ∧ w.cell? ⟨g, k * 14 + 7, none⟩ = some (.int .i64 (nthS l k).b.kind) ∧ w.cell? ⟨g, k * 14 + 8, none⟩ = some (.int .i64 (nthS l k).b.n) ∧ w.cell? ⟨g, k * 14 + 9, none⟩ = some (.string (nthS l k).b.name) ∧ w.cell? ⟨g, k * 14 + 10, none⟩ = some (.slice (some ⟨(ch k).b, 0, none⟩) (nthS l k).b.args.length ((nthS l k).b.args.length + 1)) ∧ w.cell? ⟨g, k * 14 + 11, none⟩ = some (.slice (some ⟨(ch k).body, 0, none⟩) (nthS l k).body.length ((nthS l k).body.length + 1)) ∧ w.cell? ⟨g, k * 14 + 12, none⟩ = some (.slice (some ⟨(ch k).els, 0, none⟩) (nthS l k).els.length ((nthS l k).els.length + 1)) ∧ w.cell? ⟨g, k * 14 + 13, none⟩ = some (.slice (some ⟨(ch k).cases, 0, none⟩) (nthS l k).cases.length ((nthS l k).cases.length + 1)) := by
  have c : ∀ j, j < 14 → w.cell? ⟨g, k * 14 + j, none⟩ = some (stV (nthS l k) (hdOf (nthS l k) (ch k)) j) := fun j hj => (h.row.cell _).trans (stRow_at hk hj)
  exact ⟨c 0 (by omega), c 1 (by omega), c 2 (by omega), c 3 (by omega), c 4 (by omega), c 5 (by omega), c 6 (by omega), c 7 (by omega), c 8 (by omega), c 9 (by omega), c 10 (by omega), c 11 (by omega), c 12 (by omega), c 13 (by omega)⟩
theorem POpen.c1 {w : World} {x : StD} {c : Ch} {cb : Nat → Nat} {v : Iv} {lc hc : Nat → Nat} (h : POpen w x c cb v lc hc) {j : Nat} (hj : j < x.cases.length) : w.cell? ⟨c.cases, j * 2 + 1, none⟩ = some (.slice (some ⟨cb j, 0, none⟩) (nthC x.cases j).body.length ((nthC x.cases j).body.length + 1)) := (h.crow.cell _).trans (caRow_at hj (by omega))
theorem POpen.clast {w : World} {x : StD} {c : Ch} {cb : Nat → Nat} {v : Iv} {lc hc : Nat → Nat} (h : POpen w x c cb v lc hc) : w.cell? ⟨c.cases, x.cases.length * 2, none⟩ = some (.int .i64 (-77)) := (h.crow.cell _).trans caRow_end
end Go.Proofs.YtdddppmfeoebgaaDoor

/-
  Layer 2 (tree): rows in blocks of their own while they are written over; plain.
-/
namespace Go.Proofs.YtdddppmfeoebgaaDoor
open Go.RowKit
set_option linter.unusedSimpArgs false
set_option linter.unusedVariables false
/-- Expressions: the arguments from k on stand, and the row's cells from i on. -/
structure SpE (w W : World) (lo hi g : Nat) (l : List ExD) (ch lo' hi' : Nat → Nat) (k i : Nat) : Prop where
  rest : Rest W g (l.length * 4) i 48 (exRow l ch l.length ++ endE).toArray
  kids : ∀ j, k ≤ j → j < l.length → ExsOwn W (lo' j) (hi' j) (ch j) (nthE l j).args
  mod : Mod (fun b => lo ≤ b ∧ b < hi) w W
section
variable {w W W2 : World} {lo hi g : Nat} {l : List ExD} {ch lo' hi' : Nat → Nat} {k i : Nat}
theorem SpE.start (h : EOpen w lo hi g l ch lo' hi') : SpE w w lo hi g l ch lo' hi' 0 0 := ⟨Rest.of h.row 0, fun j _ hj => h.kids j hj, Mod.refl _ _⟩
theorem SpE.kid (h : SpE w W lo hi g l ch lo' hi' k i) (HO : EOpen w lo hi g l ch lo' hi') (hk : k < l.length) (hhi : hi ≤ w.heap.size) (hm : Mod (fun b => lo' k ≤ b ∧ b < hi' k) W W2) : SpE w W2 lo hi g l ch lo' hi' (k + 1) i := by
  have a := HO.into k hk
  have low := HO.low
  have sz := h.mod.size
  refine ⟨h.rest.mod hm (by omega), fun j h1 h2 => (h.kids j (by omega) h2).keep (hm.agree (by have := HO.into j h2; omega) fun b c d => ?_), h.mod.trans (hm.mono fun b _ hb => by omega)⟩
  have := HO.apart k j (by omega) h2
  omega
theorem SpE.next (h : SpE w W lo hi g l ch lo' hi' k i) {i2 : Nat} (hi2 : i ≤ i2) : SpE w W lo hi g l ch lo' hi' k i2 := ⟨h.rest.more hi2, h.kids, h.mod⟩
theorem SpE.put (h : SpE w W lo hi g l ch lo' hi' k i) (HO : EOpen w lo hi g l ch lo' hi') {m : Nat} (hm : m < i) (v : Value) : SpE w (W.setCell ⟨g, m, none⟩ v) lo hi g l ch lo' hi' k i :=
  ⟨h.rest.put hm v, fun j h1 h2 => (h.kids j h1 h2).keep fun b c d => Below.heap_setCell _ _ _ _ (by have := HO.into j h2; simp only; omega), h.mod.setCell (p := ⟨g, m, none⟩) ⟨HO.low, HO.lt⟩ v⟩
theorem SpE.cells (h : SpE w W lo hi g l ch lo' hi' k (k * 4)) (hk : k < l.length) : W.cell? ⟨g, k * 4, none⟩ = some (.int .i64 (nthE l k).kind) ∧ W.cell? ⟨g, k * 4 + 1, none⟩ = some (.int .i64 (nthE l k).n) ∧ W.cell? ⟨g, k * 4 + 2, none⟩ = some (.string (nthE l k).name) ∧ W.cell? ⟨g, k * 4 + 3, none⟩ = some (.slice (some ⟨ch k, 0, none⟩) (nthE l k).args.length ((nthE l k).args.length + 1)) := by
  have c : ∀ j, j < 4 → W.cell? ⟨g, k * 4 + j, none⟩ = some (exV (nthE l k) ⟨some ⟨ch k, 0, none⟩, (nthE l k).args.length + 1⟩ j) := fun j hj => (h.rest.cell (by omega) (by omega)).trans (exRow_at hk hj)
  exact ⟨c 0 (by omega), c 1 (by omega), c 2 (by omega), c 3 (by omega)⟩
end
/-- A statement's cases. -/
structure SpC (w W : World) (x : StD) (c : Ch) (cb : Nat → Nat) (v : Iv) (lc hc : Nat → Nat) (k i : Nat) : Prop where
  rest : Rest W c.cases (x.cases.length * 2) i 89 (caRow x.cases cb x.cases.length ++ endCa).toArray
  kids : ∀ j, k ≤ j → j < x.cases.length → StsOwn W (lc j) (hc j) (cb j) (nthC x.cases j).body
  mod : Mod (fun b => v.ll ≤ b ∧ b < v.hh) w W
section
variable {w W W2 : World} {x : StD} {c : Ch} {cb : Nat → Nat} {v : Iv} {lc hc : Nat → Nat} {g hi k i : Nat}
theorem SpC.start (h : POpen w x c cb v lc hc) (o : IvOk g hi v c.cases) (hhi : hi ≤ w.heap.size) (hm : Mod (fun b => v.la ≤ b ∧ b < v.hE) w W) : SpC w W x c cb v lc hc 0 0 := by
  obtain ⟨o0, o1, o2, o3, o4, o5, o6, o7, o8, o9, o10, o11⟩ := o
  refine ⟨Rest.of (hm.whl h.crow (by omega)) 0, fun j _ hj => (h.cbody j hj).keep (hm.agree (by have := h.cinto j hj; omega) fun b _ _ => by have := h.cinto j hj; omega), hm.mono fun b _ hb => by omega⟩
theorem SpC.kid (h : SpC w W x c cb v lc hc k i) (HP : POpen w x c cb v lc hc) (o : IvOk g hi v c.cases) (hk : k < x.cases.length) (hhi : hi ≤ w.heap.size) (hm : Mod (fun b => lc k ≤ b ∧ b < hc k) W W2) : SpC w W2 x c cb v lc hc (k + 1) i := by
  obtain ⟨o0, o1, o2, o3, o4, o5, o6, o7, o8, o9, o10, o11⟩ := o
  have a := HP.cinto k hk
  have sz := h.mod.size
  refine ⟨h.rest.mod hm (by omega), fun j h1 h2 => (h.kids j (by omega) h2).keep (hm.agree (by have := HP.cinto j h2; omega) fun b _ _ => ?_), h.mod.trans (hm.mono fun b _ hb => by omega)⟩
  have := HP.capart k j (by omega) h2
  omega
theorem SpC.next (h : SpC w W x c cb v lc hc k i) {i2 : Nat} (hi2 : i ≤ i2) : SpC w W x c cb v lc hc k i2 := ⟨h.rest.more hi2, h.kids, h.mod⟩
theorem SpC.put (h : SpC w W x c cb v lc hc k i) (HP : POpen w x c cb v lc hc) (o : IvOk g hi v c.cases) {m : Nat} (hm : m < i) (u : Value) : SpC w (W.setCell ⟨c.cases, m, none⟩ u) x c cb v lc hc k i := by
  obtain ⟨o0, o1, o2, o3, o4, o5, o6, o7, o8, o9, o10, o11⟩ := o
  exact ⟨h.rest.put hm u, fun j h1 h2 => (h.kids j h1 h2).keep fun b _ _ => Below.heap_setCell _ _ _ _ (by have := HP.cinto j h2; simp only; omega), h.mod.setCell (p := ⟨c.cases, m, none⟩) ⟨by simp only; omega, by simp only; omega⟩ u⟩
theorem SpC.cells (h : SpC w W x c cb v lc hc k (k * 2)) (hk : k < x.cases.length) : W.cell? ⟨c.cases, k * 2, none⟩ = some (.int .i64 (nthC x.cases k).n) ∧ W.cell? ⟨c.cases, k * 2 + 1, none⟩ = some (.slice (some ⟨cb k, 0, none⟩) (nthC x.cases k).body.length ((nthC x.cases k).body.length + 1)) :=
  ⟨(h.rest.cell (by omega) (by omega)).trans (caRow_at (j := 0) hk (by omega)), (h.rest.cell (by omega) (by omega)).trans (caRow_at (j := 1) hk (by omega))⟩
end
/-- Statements. -/
structure SpS (w W : World) (lo hi g : Nat) (l : List StD) (ch : Nat → Ch) (cb : Nat → Nat → Nat) (iv : Nat → Iv) (lc hc : Nat → Nat → Nat) (k i : Nat) : Prop where
  rest : Rest W g (l.length * 14) i 53 (stRow l ch l.length ++ endSt).toArray
  each : ∀ j, k ≤ j → j < l.length → POpen W (nthS l j) (ch j) (cb j) (iv j) (lc j) (hc j)
  mod : Mod (fun b => lo ≤ b ∧ b < hi) w W
section
variable {w W W2 : World} {lo hi g : Nat} {l : List StD} {ch : Nat → Ch} {cb : Nat → Nat → Nat} {iv : Nat → Iv} {lc hc : Nat → Nat → Nat} {k i : Nat}
theorem SpS.start (h : SOpen w lo hi g l ch cb iv lc hc) : SpS w w lo hi g l ch cb iv lc hc 0 0 := ⟨Rest.of h.row 0, fun j _ hj => h.each j hj, Mod.refl _ _⟩
theorem SpS.one (h : SpS w W lo hi g l ch cb iv lc hc k i) (HO : SOpen w lo hi g l ch cb iv lc hc) (hk : k < l.length) (hhi : hi ≤ w.heap.size) (hm : Mod (fun b => (iv k).ll ≤ b ∧ b < (iv k).hh) W W2) : SpS w W2 lo hi g l ch cb iv lc hc (k + 1) i := by
  have o := HO.ord k hk
  have a := o.g
  have a2 := o.hi
  have low := HO.low
  have sz := h.mod.size
  refine ⟨h.rest.mod hm (by omega), fun j h1 h2 => (h.each j (by omega) h2).keep (HO.ord j h2) (hm.agree (by have := (HO.ord j h2).hi; omega) fun b c d => ?_), h.mod.trans (hm.mono fun b _ hb => by omega)⟩
  have := HO.apart k j (by omega) h2
  omega
theorem SpS.next (h : SpS w W lo hi g l ch cb iv lc hc k i) {i2 : Nat} (hi2 : i ≤ i2) : SpS w W lo hi g l ch cb iv lc hc k i2 := ⟨h.rest.more hi2, h.each, h.mod⟩
theorem SpS.put (h : SpS w W lo hi g l ch cb iv lc hc k i) (HO : SOpen w lo hi g l ch cb iv lc hc) {m : Nat} (hm : m < i) (v : Value) : SpS w (W.setCell ⟨g, m, none⟩ v) lo hi g l ch cb iv lc hc k i :=
  ⟨h.rest.put hm v, fun j h1 h2 => (h.each j h1 h2).keep (HO.ord j h2) fun b c d => Below.heap_setCell _ _ _ _ (by have := (HO.ord j h2).g; simp only; omega), h.mod.setCell (p := ⟨g, m, none⟩) ⟨HO.low, HO.lt⟩ v⟩
theorem SpS.cell (h : SpS w W lo hi g l ch cb iv lc hc k (k * 14)) (hk : k < l.length) : ∀ j, j < 14 → W.cell? ⟨g, k * 14 + j, none⟩ = some (stV (nthS l k) (hdOf (nthS l k) (ch k)) j) := fun j hj => (h.rest.cell (by omega) (by omega)).trans (stRow_at hk hj)
end
end Go.Proofs.YtdddppmfeoebgaaDoor
