/-
  Layer 16 (bounds): Rnd, BndE, ClosD, StartG.
-/
import Derived.Test.YtddobhneplfddaaDoorV2
import Derived.Test.YtddobhneplfddaaDoorV7
import Derived.Test.YtddobhneplfddaaDoorV14
import Derived.BigFrameIn
import Derived.LoopIn
import Derived.LoopNIn
import Derived.OwnWalkIn
import Derived.RangeFuncBound
import Derived.RangeFuncCalls
import Derived.RangeFuncLeaves
import Derived.Shelf.Abstract
import Derived.Shelf.RegionOpen
import Derived.TacticsInMore
namespace Go.Proofs.YtddobhneplfddaaDoor
open Go.RowKit Go.Shelf
set_option linter.unusedSimpArgs false
set_option linter.unusedVariables false
attribute [local go_sem] Oper.semAt_some
/-- What the iterator reads: where the marks lie, and which they are. -/
def MarksAt (bx sb n : Nat) (ms : List Nat → List Bool) (pre : List Nat) (W : World) : Prop :=
  ∃ mkb, W.cell? ⟨bx, 0, none⟩ = some (.pointer (some ⟨sb, 0, none⟩)) ∧ W.cell? ⟨sb, 2, none⟩ = some (.slice (some ⟨mkb, 0, none⟩) n n) ∧ mkb < W.heap.size ∧ (ms pre).length = n ∧ ∀ k, k < n → W.cell? ⟨mkb, k, none⟩ = some (.bool ((ms pre).getD k false))
/-- So many times through all. -/
def passes (n : Nat) : Nat → List Nat
  | 0 => []
  | k + 1 => passes n k ++ List.range n
theorem passes_le (n : Nat) {p q : Nat} (h : p ≤ q) : passes n p <+: passes n q := by
  induction h with
  | refl => exact List.prefix_refl _
  | step _ ih => exact ih.trans (List.prefix_append _ _)
theorem pass_at (n : Nat) {p K k : Nat} (hp : p < K) (hk : k < n) : (passes n p ++ List.range k) ++ [k] <+: passes n K := by
  refine List.IsPrefix.trans ?_ (passes_le n (show p + 1 ≤ K from hp))
  rw [List.append_assoc, ← List.range_succ, passes]
  exact (List.prefix_append_right_inj _).2 ⟨(List.range n).drop (k + 1), by
    have : (List.range n).take (k + 1) = List.range (k + 1) := by rw [List.take_range]; congr 1; omega
    rw [← this, List.take_append_drop]⟩
/-- The least number that it holds of. -/
theorem least_of {P : Nat → Prop} : ∀ m, P m → ∃ k, P k ∧ k ≤ m ∧ ∀ j, P j → k ≤ j := by
  intro m
  induction m using Nat.strongRecOn with
  | ind m ih =>
    intro h
    by_cases hx : ∃ j, j < m ∧ P j
    · obtain ⟨j, hj, hp⟩ := hx
      obtain ⟨k, h1, h2, h3⟩ := ih j hj hp
      exact ⟨k, h1, by omega, h3⟩
    · exact ⟨m, h, Nat.le_refl _, fun j hj => Classical.byContradiction fun hn => hx ⟨j, by omega, hj⟩⟩
open Classical in
noncomputable def leastN (P : Nat → Prop) : Nat := if h : ∃ m, P m then (least_of _ h.choose_spec).choose else 0
theorem leastN_le {P : Nat → Prop} {m : Nat} (h : P m) : leastN P ≤ m := by
  have hx : ∃ m, P m := ⟨m, h⟩
  rw [leastN, dif_pos hx]
  exact (least_of _ hx.choose_spec).choose_spec.2.2 m h
theorem leastN_is {P : Nat → Prop} {m : Nat} (h : P m) : P (leastN P) := by
  have hx : ∃ m, P m := ⟨m, h⟩
  rw [leastN, dif_pos hx]
  exact (least_of _ hx.choose_spec).choose_spec.1
/-- So many times are left at the head of the iterator's outer loop. -/
def RndLeft (n K : Nat) (J : List Nat → World → Prop) (W : World) (m : Nat) : Prop := ∃ p, p + m = K ∧ J (passes n p) W
set_option maxRecDepth 100000 in
set_option maxHeartbeats 2000000 in
theorem roundsP (bx sb n K : Nat) (ms : List Nat → List Bool) (hn : n ≤ maxLen) (h1 : ∀ p, p < K → true ∈ ms (passes n p)) (h2 : ¬ true ∈ ms (passes n K)) (W : World) :
    SeqM Tryd.prog 60 #[] #[.pointer (some ⟨bx, 0, none⟩)] (fun k : Nat => #[.int .i64 k]) (MarksAt bx sb n ms) (passes n K) W := by
  intro l J hJI hY h0
  refine callsIn_of_wp Tryd.func60 rfl trivial ?_ rfl
  simp only [Tryd.ntmps60, List.size_toArray, List.length_cons, List.length_nil, Nat.reduceAdd, Nat.reduceSub, Array.replicate_succ, Array.replicate_zero, List.push_toArray, List.append_toArray, List.nil_append, List.cons_append, List.append_nil]
  gi_wp2
  gi_loopw [4] (fun a W => ∃ m, RndLeft n K J W m) (fun _ W => leastN (RndLeft n K J W))
  case atStart => exact ⟨K, 0, by omega, h0⟩
  case round =>
    obtain ⟨m1, hm1⟩ := hrel
    have hm2 := leastN_is hm1
    have hle := Lib.hid (fun W' m' => leastN_le (P := RndLeft n K J W') (m := m'))
    generalize hm0 : leastN (RndLeft n K J wr) = m0 at *
    obtain ⟨p, hp, hJ⟩ := hm2
    obtain ⟨mkb, c0, c1, hlt, hlen, hc⟩ := hJI _ _ hJ
    have hv : ValsAt wr (some ⟨mkb, 0, none⟩) ((ms (passes n p)).map Value.bool) := fun h0 => ⟨mkb, 0, rfl, fun k v hv => by
      rw [List.getElem?_map] at hv
      obtain ⟨b, hb, rfl⟩ := Option.map_eq_some_iff.1 hv
      have hk : k < n := by rw [← hlen]; exact (List.getElem?_eq_some_iff.1 hb).1
      rw [Nat.zero_add, hc k hk, List.getD_eq_getElem?_getD, hb]; rfl⟩
    have HY := Lib.hid hY
    have HM0 := Lib.hid hm0
    have HI := Lib.hid hJI
    have HV := Lib.hid hv
    clear hm1 hY hm0 hJI hv h0 hc
    have hCB : Calls Tryd.prog 61 #[.slice (some ⟨mkb, 0, none⟩) n n, Value.bool true] wr fun e w' => e = .returned (.bool (decide (true ∈ ms (passes n p)))) ∧ wr = w' := by
      have := containsB (ms (passes n p)) true (some ⟨mkb, 0, none⟩) n wr (by omega) HV.out
      rwa [hlen] at this
    have HCB := Lib.hid hCB
    clear hCB
    unfold maxLen at hn
    by_cases hpk : p < K
    · have hd : decide (true ∈ ms (passes n p)) = true := by simpa using h1 p hpk
      gi_wp2_with (refine ⟨trivial, ?_⟩; gi_at_call 61; refine (callsIn_wide.2 HCB.out).mono ?_; rintro e w' ⟨rfl, rfl⟩)
      gi_loopw [14] (fun i W => ∃ k : Nat, k ≤ n ∧ i = .int .i64 k ∧ J (passes n p ++ List.range k) W) (fun i _ => n - (intOf i).toNat)
      case atStart => exact ⟨0, Nat.zero_le _, rfl, by rw [List.range_zero, List.append_nil]; exact hJ⟩
      case round =>
        clear c0 c1 HV HCB
        obtain ⟨k, hk, rfl, hJ2⟩ := hrel
        by_cases hkn : k < n
        · have hki : (k : Int) < (n : Int) := by omega
          obtain ⟨fn, tmps, assign, body, hy, hR⟩ := HY.out _ k _ hJ2 (pass_at n hpk hkn)
          gi_wp2
          refine (round_anyM hR).mono ?_
          rintro e W3 ⟨rfl, hJ3⟩
          clear hy hR
          gi_wp2
          go_roundw
          case rel =>
            refine ⟨k + 1, by omega, by go_num, ?_⟩
            rw [List.range_succ, ← List.append_assoc]; exact hJ3
          case measure => simp [intOf]; omega
        · have hkk : k = n := by omega
          subst hkk
          gi_wp2
          go_roundw
          case rel => exact ⟨K - (p + 1), p + 1, by omega, hJ2⟩
          case measure =>
            exact Nat.lt_of_le_of_lt (hle.out _ (K - (p + 1)) ⟨p + 1, by omega, hJ2⟩) (by omega)
    · have hpK : p = K := by omega
      subst hpK
      have hd : decide (true ∈ ms (passes n p)) = false := by simpa using h2
      gi_wp2_with (refine ⟨trivial, ?_⟩; gi_at_call 61; refine (callsIn_wide.2 HCB.out).mono ?_; rintro e w' ⟨rfl, rfl⟩)
      go_end0
      exact ⟨⟨_, rfl⟩, hJ⟩
end Go.Proofs.YtddobhneplfddaaDoor

namespace Go.Proofs.YtddobhneplfddaaDoor
set_option maxRecDepth 100000
open Go.RowKit
set_option linter.unusedSimpArgs false
set_option linter.unusedVariables false
def JOk (N R : Nat) (s : StD) : Prop := ∀ i, i < N → s.joined.getD i 0 ≤ sumN R fun k => (s.changes.getD i []).getD k 0
theorem merge_J {N R : Nat} {ths : List Int} {s : StD} (h : StOk N R ths s) (hj : JOk N R s) {tw : Nat} (htw : tw < N) {nx : List Sp} (hn : nx.length = R) : JOk N R (mergeD s tw nx ths) := by
  cases ho : s.ins.getD tw none with
  | none => rw [mergeD_none nx ths ho]; exact hj
  | some old =>
    have hc := h.row tw htw
    rw [mergeD_some ths ho hc (h.some tw old ho).1 hn]
    cases ha : anyTo old nx R
    · exact hj
    · obtain ⟨j, hj1, hj2⟩ := (anyTo_iff old nx R).1 ha
      intro i hi
      simp only [if_true]
      rw [getD_set, getD_set]
      by_cases e : tw = i
      · subst e
        rw [if_pos ⟨rfl, by rw [h.lj]; exact htw⟩, if_pos ⟨rfl, by rw [h.lc]; exact htw⟩]
        have hlt := sumN_lt (f := fun k => (s.changes.getD tw []).getD k 0) (g := fun k => (incTo (s.changes.getD tw []) old nx R).getD k 0) (k := j) (by
          rw [incTo_get _ _ _ _ _ (by omega), if_pos ⟨hj1, hj2⟩]; omega) R hj1 (fun k hk => by
          rw [incTo_get _ _ _ _ _ (by omega)]; split <;> omega)
        have := hj tw htw
        omega
      · rw [if_neg (fun q => e q.1), if_neg (fun q => e q.1)]
        exact hj i hi
theorem nextD_lt {f : FuncD} {a b : Int} (h : b ∈ nextD f a) : 0 ≤ b ∧ b < f.code.length := by
  unfold nextD at h
  split at h
  · have := (List.mem_filter.1 h).2
    simpa [inCode] using this
  · simp at h
/-- The analysis' state is in order. -/
structure GoodS (m : ModD) (f : FuncD) (s : StD) : Prop where
  ok : StOk f.code.length f.regs.toNat m.ths s
  jn : JOk f.code.length f.regs.toNat s
abbrev actF (f : FuncD) (s : StD) : Nat := act f.code.length f.regs.toNat s
theorem step_ok {m : ModD} {f : FuncD} (wm : m.Wf) (wf : f.Wf) {frm : Nat} (hf : frm < f.code.length) {inn : List Sp} (hi : GdR inn) (hl : inn.length = f.regs.toNat) : ∀ (l : List Int) (s : StD), (∀ b, b ∈ l → 0 ≤ b ∧ b < f.code.length) → GoodS m f s →
    GoodS m f (stepD m f frm inn l s) ∧ (stepD m f frm inn l s = s ∨ actF f s < actF f (stepD m f frm inn l s))
  | [], s, _, h => ⟨h, .inl rfl⟩
  | b :: l, s, hb, h => by
    rw [stepD]
    have hb0 := hb b (by simp)
    have key : ∀ s1, GoodS m f s1 → (s1 = s ∨ actF f s < actF f s1) → GoodS m f (stepD m f frm inn l s1) ∧ (stepD m f frm inn l s1 = s ∨ actF f s < actF f (stepD m f frm inn l s1)) := fun s1 g1 h1 => by
      obtain ⟨g2, h2⟩ := step_ok wm wf hf hi hl l s1 (fun c hc => hb c (by simp [hc])) g1
      refine ⟨g2, ?_⟩
      rcases h1 with e1 | e1 <;> rcases h2 with e2 | e2
      · exact .inl (e2.trans e1)
      · rw [e1] at e2; rw [e1]; exact .inr e2
      · rw [e2]; exact .inr e1
      · exact .inr (Nat.lt_trans e1 e2)
    cases ho : awayD m f frm b (nthX f.code frm) inn with
    | none => exact key s h (.inl rfl)
    | some q =>
      obtain ⟨q1, q2⟩ := away_good (wf.code _ (nthX_mem hf)).2.2.2.2 hi ho
      have ht : b.toNat < f.code.length := by omega
      obtain ⟨o1, o2⟩ := merge_ok h.ok ht (by omega) (fun k _ => q2 k) wm.ths
      refine key _ ⟨o1, merge_J h.ok h.jn ht (by omega)⟩ ?_
      rcases o2.still with e | ⟨_, e⟩
      · exact .inl e
      · exact .inr e
def bigC (m : ModD) (f : FuncD) : Nat := f.code.length * (1 + f.regs.toNat * (4 + m.ths.length + 2))
theorem act_le {m : ModD} {f : FuncD} {s : StD} (h : GoodS m f s) : actF f s ≤ bigC m f := by
  refine sumN_const _ _ fun i hi => ?_
  unfold actAt
  cases ho : s.ins.getD i none with
  | none =>
    have := (h.ok.none i ho).2.2
    have e : sumN f.regs.toNat (fun k => (s.changes.getD i []).getD k 0) ≤ f.regs.toNat * 0 := sumN_const 0 _ fun k _ => by rw [this k]; exact Nat.le_refl _
    simp only [Option.isSome_none, Bool.false_eq_true, if_false]; omega
  | some l =>
    have e : sumN f.regs.toNat (fun k => (s.changes.getD i []).getD k 0) ≤ f.regs.toNat * (4 + m.ths.length + 2) := sumN_const _ _ fun k hk => by
      have := (h.ok.some i l ho).2.2 k hk
      omega
    simp only [Option.isSome_some, if_true]; omega
theorem joined_le {m : ModD} {f : FuncD} {s : StD} (h : GoodS m f s) {i : Nat} (hi : i < f.code.length) : s.joined.getD i 0 ≤ f.regs.toNat * (4 + m.ths.length + 2) := by
  refine Nat.le_trans (h.jn i hi) (sumN_const _ _ fun k hk => ?_)
  cases ho : s.ins.getD i none with
  | none => rw [(h.ok.none i ho).2.2 k]; omega
  | some l =>
    have := (h.ok.some i l ho).2.2 k hk
    omega
theorem marks_le (N : Nat) (s : StD) : marks N s ≤ N := by
  have := sumN_const 1 (f := fun i => if s.marked.getD i false then 1 else 0) N (fun i _ => by split <;> omega)
  unfold marks; omega
def big (m : ModD) (f : FuncD) (s : StD) : Nat := (bigC m f - actF f s) * (f.code.length + 1) + marks f.code.length s
theorem visit_no {m : ModD} {f : FuncD} {s : StD} {i : Nat} (h : s.marked.getD i false = false) : visitD m f s i = s := by rw [visitD, h]; rfl
theorem visit_yes {m : ModD} {f : FuncD} {s : StD} {i : Nat} (h : s.marked.getD i false = true) : visitD m f s i = stepD m f i ((s.ins.getD i none).getD []) (nextD f i) { s with marked := s.marked.set i false } := by rw [visitD, h]; rfl
theorem unmark_good {m : ModD} {f : FuncD} {s : StD} (h : GoodS m f s) (i : Nat) : GoodS m f { s with marked := s.marked.set i false } := by
  refine ⟨⟨h.ok.li, by simpa using h.ok.lm, h.ok.lj, h.ok.lc, h.ok.row, h.ok.some, fun j hj => ?_⟩, h.jn⟩
  obtain ⟨a, b, c⟩ := h.ok.none j hj
  refine ⟨?_, b, c⟩
  simp only
  rw [getD_set]
  split
  · rfl
  · exact a
theorem row_at {m : ModD} {f : FuncD} {s : StD} (h : GoodS m f s) {i : Nat} (hm : s.marked.getD i false = true) : ∃ l, s.ins.getD i none = some l ∧ l.length = f.regs.toNat ∧ GdR l := by
  cases ho : s.ins.getD i none with
  | none => rw [(h.ok.none i ho).1] at hm; cases hm
  | some l =>
    obtain ⟨a, b, _⟩ := h.ok.some i l ho
    exact ⟨l, rfl, a, GdR.of a b⟩
theorem visit_ok {m : ModD} {f : FuncD} (wm : m.Wf) (wf : f.Wf) {s : StD} (h : GoodS m f s) {i : Nat} (hi : i < f.code.length) :
    GoodS m f (visitD m f s i) ∧ (s.marked.getD i false = true → big m f (visitD m f s i) < big m f s) := by
  cases hm : s.marked.getD i false
  · rw [visit_no hm]; exact ⟨h, fun e => by cases e⟩
  · obtain ⟨l, h1, h2, h3⟩ := row_at h hm
    rw [visit_yes hm, h1]
    obtain ⟨g, e⟩ := step_ok wm wf hi h3 h2 (nextD f i) _ (fun b hb => nextD_lt hb) (unmark_good h i)
    refine ⟨g, fun _ => ?_⟩
    have hlt : marks f.code.length { s with marked := s.marked.set i false } < marks f.code.length s := by
      refine sumN_lt (k := i) ?_ _ hi fun j _ => ?_
      · have e0 : (s.marked.set i false).getD i false = false := by rw [getD_set, if_pos ⟨rfl, by rw [h.ok.lm]; exact hi⟩]
        show (if (s.marked.set i false).getD i false = true then 1 else 0) < (if s.marked.getD i false = true then 1 else 0)
        rw [e0, hm]; decide
      · show (if (s.marked.set i false).getD j false = true then 1 else 0) ≤ (if s.marked.getD j false = true then 1 else 0)
        rw [getD_set]
        by_cases e : i = j ∧ i < s.marked.length
        · rw [if_pos e]; exact Nat.zero_le _
        · rw [if_neg e]; exact Nat.le_refl _
    have hsame : actF f { s with marked := s.marked.set i false } = actF f s := rfl
    rcases e with e | e
    · simp only [Option.getD_some]
      rw [e]
      unfold big
      rw [hsame]
      omega
    · rw [hsame] at e
      simp only [Option.getD_some]
      generalize stepD m f i l (nextD f i) { s with marked := s.marked.set i false } = s2 at *
      have h4 := act_le g
      have h5 := marks_le f.code.length s2
      unfold big
      have h6 : (bigC m f - actF f s2) + 1 ≤ bigC m f - actF f s := by omega
      have h7 := Nat.mul_le_mul_right (f.code.length + 1) h6
      rw [Nat.add_mul] at h7
      omega
theorem fold_ok {m : ModD} {f : FuncD} (wm : m.Wf) (wf : f.Wf) : ∀ (l : List Nat) (s : StD), (∀ j, j ∈ l → j < f.code.length) → GoodS m f s →
    GoodS m f (l.foldl (visitD m f) s) ∧ big m f (l.foldl (visitD m f) s) ≤ big m f s ∧ ((∃ j, j ∈ l ∧ s.marked.getD j false = true) → big m f (l.foldl (visitD m f) s) < big m f s)
  | [], s, _, h => ⟨h, Nat.le_refl _, fun ⟨_, hj, _⟩ => by cases hj⟩
  | i :: l, s, hl, h => by
    obtain ⟨g1, b1⟩ := visit_ok wm wf h (hl i (by simp))
    obtain ⟨g2, b2, b3⟩ := fold_ok wm wf l _ (fun j hj => hl j (by simp [hj])) g1
    rw [List.foldl_cons]
    refine ⟨g2, ?_, ?_⟩
    · cases hm : s.marked.getD i false
      · rw [visit_no hm] at b2 ⊢; exact b2
      · exact Nat.le_trans b2 (Nat.le_of_lt (b1 hm))
    · rintro ⟨j, hj, hmj⟩
      cases hm : s.marked.getD i false
      · rw [visit_no hm] at b3 ⊢
        rcases List.mem_cons.1 hj with rfl | hj
        · rw [hm] at hmj; cases hmj
        · exact b3 ⟨j, hj, hmj⟩
      · exact Nat.lt_of_le_of_lt b2 (b1 hm)
/-- What stands behind so many rounds through all. -/
def afterD (m : ModD) (f : FuncD) (pre : List Nat) : StD := pre.foldl (visitD m f) (startD f)
theorem after_app (m : ModD) (f : FuncD) (a b : List Nat) : afterD m f (a ++ b) = b.foldl (visitD m f) (afterD m f a) := List.foldl_append ..
theorem passes_mem {n k : Nat} : ∀ p, k ∈ passes n p → k < n
  | 0, h => by cases h
  | p + 1, h => by
    rcases List.mem_append.1 h with h | h
    · exact passes_mem p h
    · exact List.mem_range.1 h
theorem marked_iff {m : ModD} {f : FuncD} {s : StD} (h : GoodS m f s) : true ∈ s.marked ↔ ∃ j, j < f.code.length ∧ s.marked.getD j false = true := by
  constructor
  · intro hm
    obtain ⟨j, hj, e⟩ := List.getElem_of_mem hm
    exact ⟨j, by rw [← h.ok.lm]; exact hj, by rw [List.getD_eq_getElem?_getD, List.getElem?_eq_getElem hj, e]; rfl⟩
  · rintro ⟨j, hj, e⟩
    have hj2 : j < s.marked.length := by rw [h.ok.lm]; exact hj
    rw [List.getD_eq_getElem?_getD, List.getElem?_eq_getElem hj2] at e
    exact e ▸ List.getElem_mem hj2
theorem stops {m : ModD} {f : FuncD} (wm : m.Wf) (wf : f.Wf) (h : GoodS m f (startD f)) :
    ∃ K, (∀ p, p < K → true ∈ (afterD m f (passes f.code.length p)).marked) ∧ ¬ true ∈ (afterD m f (passes f.code.length K)).marked ∧ ∀ pre, pre <+: passes f.code.length K → GoodS m f (afterD m f pre) := by
  have hg : ∀ pre, (∀ j, j ∈ pre → j < f.code.length) → GoodS m f (afterD m f pre) := fun pre hp => (fold_ok wm wf pre _ hp h).1
  have hex : ∃ K, ¬ true ∈ (afterD m f (passes f.code.length K)).marked := by
    apply Classical.byContradiction
    intro hne
    have hall : ∀ p, true ∈ (afterD m f (passes f.code.length p)).marked := fun p => Classical.byContradiction fun q => hne ⟨p, q⟩
    have hdn : ∀ p, big m f (afterD m f (passes f.code.length p)) + p ≤ big m f (startD f) := by
      intro p
      induction p with
      | zero => exact Nat.le_refl _
      | succ p ih =>
        have g := hg (passes f.code.length p) (fun j hj => passes_mem p hj)
        obtain ⟨j, hj, hm⟩ := (marked_iff g).1 (hall p)
        have := (fold_ok wm wf (List.range f.code.length) _ (fun j hj => List.mem_range.1 hj) g).2.2 ⟨j, List.mem_range.2 hj, hm⟩
        rw [passes, after_app]
        omega
    have := hdn (big m f (startD f) + 1)
    omega
  obtain ⟨K0, h0⟩ := hex
  obtain ⟨K, k1, _, k3⟩ := least_of (P := fun K => ¬ true ∈ (afterD m f (passes f.code.length K)).marked) K0 h0
  refine ⟨K, fun p hp => Classical.byContradiction fun hn => ?_, k1, fun pre hp => hg pre fun j hj => ?_⟩
  · have := k3 p hn; omega
  · obtain ⟨t, ht⟩ := hp
    exact passes_mem K (ht ▸ List.mem_append_left t hj)
end Go.Proofs.YtddobhneplfddaaDoor

namespace Go.Proofs.YtddobhneplfddaaDoor
set_option maxRecDepth 100000
open Go.RowKit
set_option linter.unusedSimpArgs false
set_option linter.unusedVariables false
/-- What comes out of these ways is within what stands at their ends. -/
def ClosedW (m : ModD) (f : FuncD) (s : StD) (i : Nat) (l : List Sp) (ways : List Int) : Prop :=
  ∀ b, b ∈ ways → ∀ out, awayD m f i b (nthX f.code i) l = some out → ∃ l', s.ins.getD b.toNat none = some l' ∧ LeR out l'
def GrowI (s s' : StD) : Prop := ∀ j l, s.ins.getD j none = some l → ∃ l', s'.ins.getD j none = some l' ∧ LeR l l'
def StillI (s s' : StD) : Prop := ∀ j, s'.marked.getD j false = false → s'.ins.getD j none = s.ins.getD j none ∧ s.marked.getD j false = false
theorem GrowI.refl (s : StD) : GrowI s s := fun _ l h => ⟨l, h, LeR_refl _⟩
theorem GrowI.trans {a b c : StD} (h : GrowI a b) (k : GrowI b c) : GrowI a c := fun j l hl => by
  obtain ⟨l1, h1, h2⟩ := h j l hl
  obtain ⟨l2, h3, h4⟩ := k j l1 h1
  exact ⟨l2, h3, LeR_trans h2 h4⟩
theorem Merged.growI {N R : Nat} {s s' : StD} {tw : Nat} {nx : List Sp} (h : Merged N R s tw nx s') : GrowI s s' := fun j l hl => by
  by_cases e : j = tw
  · subst e; exact h.grow l hl
  · exact ⟨l, by rw [(h.far j e).1]; exact hl, LeR_refl _⟩
theorem Merged.stillI {N R : Nat} {s s' : StD} {tw : Nat} {nx : List Sp} (h : Merged N R s tw nx s') : StillI s s' := fun j hj => by
  rcases h.still with e | ⟨e, _⟩
  · subst e; exact ⟨rfl, hj⟩
  · by_cases e2 : j = tw
    · subst e2; rw [e] at hj; cases hj
    · obtain ⟨a, b⟩ := h.far j e2
      exact ⟨a, by rw [← b]; exact hj⟩
theorem ClosedW.grow {m : ModD} {f : FuncD} {s s' : StD} {i : Nat} {l : List Sp} {ways : List Int} (h : ClosedW m f s i l ways) (hg : GrowI s s') : ClosedW m f s' i l ways := fun b hb out ho => by
  obtain ⟨l1, h1, h2⟩ := h b hb out ho
  obtain ⟨l2, h3, h4⟩ := hg _ l1 h1
  exact ⟨l2, h3, LeR_trans h2 h4⟩
/-- What holds while the ways of one instruction are gone: of the others all is closed; of this one what has been gone, or it is marked again. -/
structure StepI (m : ModD) (f : FuncD) (frm : Nat) (inn : List Sp) (done : List Int) (s : StD) : Prop where
  far : ∀ i l, i ≠ frm → s.ins.getD i none = some l → s.marked.getD i false = false → ClosedW m f s i l (nextD f i)
  here : s.marked.getD frm false = false → s.ins.getD frm none = some inn ∧ ClosedW m f s frm inn done
  first : ∃ l, s.ins.getD 0 none = some l ∧ LeR (beginD f) l
theorem step_closed {m : ModD} {f : FuncD} (wm : m.Wf) (wf : f.Wf) {frm : Nat} (hf : frm < f.code.length) {inn : List Sp} (hi : GdR inn) (hl : inn.length = f.regs.toNat) : ∀ (l done : List Int) (s : StD), (∀ b, b ∈ l → 0 ≤ b ∧ b < f.code.length) → GoodS m f s →
    StepI m f frm inn done s → StepI m f frm inn (done ++ l) (stepD m f frm inn l s)
  | [], done, s, _, _, h => by rw [List.append_nil]; exact h
  | b :: l, done, s, hb, hg, h => by
    rw [stepD, show done ++ b :: l = (done ++ [b]) ++ l by simp]
    have hb0 := hb b (by simp)
    cases ho : awayD m f frm b (nthX f.code frm) inn with
    | none =>
      refine step_closed wm wf hf hi hl l _ s (fun c hc => hb c (by simp [hc])) hg ⟨h.far, fun hm => ?_, h.first⟩
      obtain ⟨a1, a2⟩ := h.here hm
      refine ⟨a1, fun c hc out hco => ?_⟩
      rcases List.mem_append.1 hc with hc | hc
      · exact a2 c hc out hco
      · rw [List.mem_singleton.1 hc, ho] at hco; cases hco
    | some q =>
      obtain ⟨q1, q2⟩ := away_good (wf.code _ (nthX_mem hf)).2.2.2.2 hi ho
      have ht : b.toNat < f.code.length := by omega
      obtain ⟨o1, o2⟩ := merge_ok hg.ok ht (by omega) (fun k _ => q2 k) wm.ths
      have hs := o2.stillI
      have hgr := o2.growI
      refine step_closed wm wf hf hi hl l _ _ (fun c hc => hb c (by simp [hc])) ⟨o1, merge_J hg.ok hg.jn ht (by omega)⟩ ⟨fun i l1 hne hl1 hm => ?_, fun hm => ?_, ?_⟩
      · obtain ⟨a1, a2⟩ := hs i hm
        rw [a1] at hl1
        exact (h.far i l1 hne hl1 a2).grow hgr
      · obtain ⟨a1, a2⟩ := hs frm hm
        obtain ⟨a3, a4⟩ := h.here a2
        refine ⟨a1.trans a3, fun c hc out hco => ?_⟩
        rcases List.mem_append.1 hc with hc | hc
        · exact a4.grow hgr c hc out hco
        · rw [List.mem_singleton.1 hc] at hco ⊢
          rw [ho] at hco
          cases hco
          exact o2.here
      · obtain ⟨l1, h1, h2⟩ := h.first
        obtain ⟨l2, h3, h4⟩ := hgr 0 l1 h1
        exact ⟨l2, h3, LeR_trans h2 h4⟩
/-- What is closed between the visits. -/
structure ClosI (m : ModD) (f : FuncD) (s : StD) : Prop where
  all : ∀ i l, s.ins.getD i none = some l → s.marked.getD i false = false → ClosedW m f s i l (nextD f i)
  first : ∃ l, s.ins.getD 0 none = some l ∧ LeR (beginD f) l
theorem visit_closed {m : ModD} {f : FuncD} (wm : m.Wf) (wf : f.Wf) {s : StD} (h : GoodS m f s) {i : Nat} (hi : i < f.code.length) (hc : ClosI m f s) : ClosI m f (visitD m f s i) := by
  cases hm : s.marked.getD i false
  · rw [visit_no hm]; exact hc
  · obtain ⟨l, h1, h2, h3⟩ := row_at h hm
    rw [visit_yes hm, h1]
    simp only [Option.getD_some]
    have key := step_closed wm wf hi h3 h2 (nextD f i) [] _ (fun b hb => nextD_lt hb) (unmark_good h i) ⟨fun j l1 hne hl1 hm1 => ?_, fun _ => ⟨h1, fun b hb => by cases hb⟩, hc.first⟩
    · refine ⟨fun j l1 hl1 hm1 => ?_, key.first⟩
      by_cases e : j = i
      · subst e
        obtain ⟨a1, a2⟩ := key.here hm1
        rw [a1] at hl1
        cases hl1
        exact a2
      · exact key.far j l1 e hl1 hm1
    · refine hc.all j l1 hl1 ?_
      simp only at hm1
      rw [getD_set, if_neg (fun e => hne e.1.symm)] at hm1
      exact hm1
theorem fold_closed {m : ModD} {f : FuncD} (wm : m.Wf) (wf : f.Wf) : ∀ (l : List Nat) (s : StD), (∀ j, j ∈ l → j < f.code.length) → GoodS m f s → ClosI m f s → ClosI m f (l.foldl (visitD m f) s)
  | [], s, _, _, h => h
  | i :: l, s, hl, hg, h => fold_closed wm wf l _ (fun j hj => hl j (by simp [hj])) (visit_ok wm wf hg (hl i (by simp))).1 (visit_closed wm wf hg (hl i (by simp)) h)
theorem start_closed {m : ModD} {f : FuncD} (hn : 0 < f.code.length) : ClosI m f (startD f) := by
  have e0 : (startD f).ins.getD 0 none = some (beginD f) := by
    unfold startD; simp only; rw [getD_set, if_pos ⟨rfl, by simpa using hn⟩]
  refine ⟨fun i l hl hm => ?_, beginD f, e0, LeR_refl _⟩
  exfalso
  unfold startD at hl hm
  simp only at hl hm
  rw [getD_set] at hl hm
  by_cases e : 0 = i
  · rw [if_pos ⟨e, by simpa using hn⟩] at hm; cases hm
  · rw [if_neg (fun q => e q.1)] at hl
    rw [List.getD_eq_getElem?_getD, List.getElem?_replicate] at hl
    split at hl <;> simp at hl
theorem final_closed {m : ModD} {f : FuncD} (wm : m.Wf) (wf : f.Wf) (hn : 0 < f.code.length) (hg : GoodS m f (startD f)) (K : Nat) : ClosI m f (afterD m f (passes f.code.length K)) :=
  fold_closed wm wf _ _ (fun j hj => passes_mem K hj) hg (start_closed hn)
end Go.Proofs.YtddobhneplfddaaDoor

namespace Go.Proofs.YtddobhneplfddaaDoor
set_option maxRecDepth 100000
open Go.RowKit
set_option linter.unusedSimpArgs false
set_option linter.unusedVariables false
theorem getD_repl {α : Type} (n i : Nat) (v d : α) : (List.replicate n v).getD i d = if i < n then v else d := by
  rw [List.getD_eq_getElem?_getD, List.getElem?_replicate]
  split <;> rfl
theorem begin_len {f : FuncD} (h : (f.params.length : Int) ≤ f.regs) : (beginD f).length = f.regs.toNat := by
  unfold beginD; simp; omega
theorem begin_good {m : ModD} (wm : m.Wf) (hmay : mayD m = ⟨0, 0, 0⟩) {kf : Nat} (hk : kf < m.funcs.length) : GdR (beginD (nthF m.funcs kf)) := fun k => by
  have h2 := (f_ok2 hmay hk).2.2
  have hw := (wm.funcs _ (nthF_mem hk)).params
  unfold beginD
  rw [List.getD_eq_getElem?_getD]
  rcases Nat.lt_or_ge k (nthF m.funcs kf).params.length with q | q
  · rw [List.getElem?_append_left q]
    have h3 := h2 k q
    rw [nthS, List.getD_eq_getElem?_getD] at h3
    rw [List.getElem?_eq_getElem q] at h3 ⊢
    exact ⟨h3, hw _ (List.getElem_mem q)⟩
  · rw [List.getElem?_append_right q, List.getElem?_replicate]
    split
    · exact gd_z0
    · exact gd_z0
theorem start_good {m : ModD} (wm : m.Wf) (hmay : mayD m = ⟨0, 0, 0⟩) {kf : Nat} (hk : kf < m.funcs.length) : GoodS m (nthF m.funcs kf) (startD (nthF m.funcs kf)) := by
  have hr := (f_ok hmay hk).regs
  have hg := begin_good wm hmay hk
  have hl := begin_len hr.2.2
  generalize nthF m.funcs kf = f at *
  have hs : ∀ {α : Type} (v x d : α) (i : Nat), ((List.replicate f.code.length v).set 0 x).getD i d = if 0 = i ∧ 0 < f.code.length then x else if i < f.code.length then v else d := fun v x d i => by
    rw [getD_set, List.length_replicate, getD_repl]
  have hc : ∀ i k, ((List.replicate f.code.length (List.replicate f.regs.toNat 0)).getD i []).getD k 0 = 0 := fun i k => by
    rw [getD_repl]; split
    · rw [getD_repl]; split <;> rfl
    · rfl
  refine ⟨⟨by simp [startD], by simp [startD], by simp [startD], by simp [startD], fun i hi => ?_, fun i l hl2 => ?_, fun i hi => ?_⟩, fun i hi => ?_⟩
  · simp only [startD]; rw [getD_repl, if_pos hi]; simp
  · simp only [startD] at hl2 ⊢
    rw [hs] at hl2
    split at hl2
    · cases hl2
      refine ⟨hl, fun k _ => hg k, fun k _ => ?_⟩
      rw [hc]
      have := phi_start m.ths (hg k).1
      omega
    · split at hl2 <;> cases hl2
  · simp only [startD] at hi ⊢
    rw [hs] at hi
    refine ⟨?_, ?_, hc i⟩
    · rw [hs]
      split
      · rename_i h; rw [if_pos h] at hi; cases hi
      · split <;> rfl
    · rw [getD_repl]; split <;> rfl
  · simp only [startD]
    rw [getD_repl]
    split <;> exact Nat.zero_le _
end Go.Proofs.YtddobhneplfddaaDoor
