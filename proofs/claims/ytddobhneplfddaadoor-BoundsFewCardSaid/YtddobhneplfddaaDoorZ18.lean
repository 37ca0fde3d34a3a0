/-
  Layer 16 (bounds): BndD.
-/
import Derived.Test.YtddobhneplfddaaDoorRows
import Derived.Test.YtddobhneplfddaaDoorZ1
import Derived.Test.YtddobhneplfddaaDoorZ3
import Derived.Test.YtddobhneplfddaaDoorZ4
import Derived.Test.YtddobhneplfddaaDoorZ5
import Derived.Test.YtddobhneplfddaaDoorZ16
import Derived.Test.YtddobhneplfddaaDoorZ17
import Derived.BigQuiet
import Derived.BigRegion
import Derived.Carry
import Derived.Deep.DeepHandedRow
import Derived.Deep.DrawnRows
import Derived.Deep.Light
import Derived.Deep.QuietTactic
import Derived.Deep.RegionHeld3
import Derived.Deep.RegionLaw
import Derived.IntWalk
import Derived.JoinedCond
import Derived.Lib.Hide
import Derived.LoopTactic
import Derived.Maps.AppendAt
import Derived.OpenShut
import Derived.OpenVars
import Derived.Outline
import Derived.OwnWalk
import Derived.ProofKit
import Derived.WalkKit
import Derived.WalkLawsBesides
import Derived.WalkSpells
namespace Go.Proofs.YtddobhneplfddaaDoor
set_option maxRecDepth 100000
open Go.RowKit
set_option linter.unusedSimpArgs false
set_option linter.unusedVariables false
def GdR (r : List Sp) : Prop := ∀ k, Gd (r.getD k z0)
theorem gd_z0 : Gd z0 := by unfold Gd z0 Sp.Wf; simp
theorem GdR.of {r : List Sp} {n : Nat} (hl : r.length = n) (h : ∀ k, k < n → Gd (r.getD k z0)) : GdR r := fun k => by
  rcases Nat.lt_or_ge k n with q | q
  · exact h k q
  · rw [List.getD_eq_getElem?_getD, List.getElem?_eq_none (by omega)]; exact gd_z0
theorem GdR.atS {r : List Sp} (h : GdR r) (i : Int) : Gd (atS r i) := h i.toNat
theorem GdR.setS {r : List Sp} (h : GdR r) (i : Int) {a : Sp} (ha : Gd a) : GdR (setS r i a) := fun k => by
  unfold Go.Proofs.YtddobhneplfddaaDoor.setS
  rw [getD_set]
  split
  · exact ha
  · exact h k
theorem setS_len (r : List Sp) (i : Int) (a : Sp) : (setS r i a).length = r.length := List.length_set ..
theorem meet_good {a b : Sp} (ha : Gd a) (h : a.meetOk b = true) : Gd (a.meet b) := by
  obtain ⟨h1, h2, h3⟩ := ha
  have hn : (Sp.meetS a b).none = false := by simpa [Sp.meetOk] using h
  have e : a.meet b = Sp.meetS a b := by rw [Sp.meet, hn]; rfl
  rw [e]
  have hn2 : ¬ (Sp.meetS a b).hi < (Sp.meetS a b).lo := by simpa [Sp.none] using hn
  unfold Gd Sp.Wf
  simp only [Sp.meetS, Sp.mx, Sp.mn] at hn2 ⊢
  (repeat' split at hn2) <;> (repeat' split) <;> omega
theorem wo0_good {a : Sp} (ha : Gd a) (h : (wo0 a).lo ≤ (wo0 a).hi) : Gd (wo0 a) := by
  obtain ⟨h1, h2, h3⟩ := ha
  refine ⟨h, ?_⟩
  unfold wo0 Sp.Wf at *
  simp only at *
  (repeat' split) <;> omega
theorem all_good : Gd Sp.all := by unfold Gd Sp.all Sp.Wf Sp.least Sp.greatest; simp
theorem doAll_good (op : Int) (h : op = 3 ∨ op = 4 ∨ op = 5 ∨ op = 6 ∨ op = 7 ∨ op = 8 ∨ op = 9 ∨ op = 10) : (doSp op Sp.all Sp.all).Wf := by
  rcases h with rfl | rfl | rfl | rfl | rfl | rfl | rfl | rfl <;> (refine ⟨⟨?_, ?_⟩, ?_, ?_⟩ <;> decide)
theorem do_ops {op : Int} {a b : Sp} (h : doOk op a b = true) : op = 3 ∨ op = 4 ∨ op = 5 ∨ op = 6 ∨ op = 7 ∨ op = 8 ∨ op = 9 ∨ op = 10 := by
  simp [doOk] at h; omega
theorem do_good {op : Int} {a b : Sp} (ha : Gd a) (hb : Gd b) (h : doOk op a b = true) : Gd (doSp op a b) := by
  have hop := do_ops h
  obtain ⟨h1, w1⟩ := ha
  obtain ⟨h2, w2⟩ := hb
  have hy : ∃ y, b.In y ∧ opOk op y = true := by
    by_cases e : b.lo = 0
    · refine ⟨b.hi, ⟨h2, Int.le_refl _⟩, ?_⟩
      simp only [doOk, Sp.zero, Sp.none] at h
      simp only [opOk]
      simp at h ⊢
      omega
    · refine ⟨b.lo, ⟨Int.le_refl _, h2⟩, ?_⟩
      simp only [opOk]
      simp
      omega
  obtain ⟨y, hy1, hy2⟩ := hy
  obtain ⟨_, hin⟩ := do_true w1 w2 (show a.In a.lo from ⟨Int.le_refl _, h1⟩) (fun _ => hy1) hy2
  have hle : (doSp op a b).lo ≤ (doSp op a b).hi := Int.le_trans hin.1 hin.2
  obtain ⟨_, hw⟩ := do_grows (c := Sp.all) (d := Sp.all) all_good.2 all_good.2 (within_iff.2 fun _ => ⟨w1.1.1, w1.2.2⟩) (within_iff.2 fun _ => ⟨w2.1.1, w2.2.2⟩) h
  have hh := within_iff.1 hw hle
  have wA := doAll_good op hop
  refine ⟨hle, ?_⟩
  unfold Sp.Wf at *
  omega
theorem callD_good : ∀ (ps : List Sp) (r : List Sp) (b : Int) (q : List Sp), GdR r → callD r b ps = some q → q.length = r.length ∧ GdR q
  | [], r, b, q, hr, h => by cases h; exact ⟨rfl, hr⟩
  | p :: ps, r, b, q, hr, h => by
    rw [callD] at h
    split at h
    · rename_i hm
      obtain ⟨h1, h2⟩ := callD_good ps _ _ q (hr.setS b (meet_good (hr.atS b) hm)) h
      exact ⟨h1.trans (setS_len _ _ _), h2⟩
    · cases h
theorem away_good {m : ModD} {f : FuncD} {frm to : Int} {x : InsD} {r q : List Sp} (wx : In64 x.n) (hr : GdR r) (h : awayD m f frm to x r = some q) : q.length = r.length ∧ GdR q := by
  unfold awayD at h
  by_cases c0 : x.op = 1
  · rw [if_pos c0] at h
    cases h
    exact ⟨setS_len _ _ _, hr.setS _ ⟨Int.le_refl _, wx, wx⟩⟩
  rw [if_neg c0] at h
  by_cases c1 : x.op = 2
  · rw [if_pos c1] at h
    cases h
    exact ⟨setS_len _ _ _, hr.setS _ (hr.atS _)⟩
  rw [if_neg c1] at h
  by_cases c2 : x.op = 6 ∨ x.op = 7
  · rw [if_pos c2] at h
    split at h
    · rename_i hd
      cases h
      refine ⟨by rw [setS_len, setS_len], (hr.setS _ (wo0_good (hr.atS _) ?_)).setS _ (do_good (hr.atS _) (hr.atS _) hd)⟩
      have hc := (hr.atS x.c).1
      have hz : ¬ ((atS r x.c).lo = 0 ∧ (atS r x.c).hi = 0) := by
        simp [doOk, Sp.zero] at hd
        omega
      unfold wo0
      simp only
      (repeat' split) <;> omega
    · cases h
  rw [if_neg c2] at h
  by_cases c3 : 3 ≤ x.op ∧ x.op ≤ 10
  · rw [if_pos c3] at h
    split at h
    · rename_i hd
      cases h
      exact ⟨setS_len _ _ _, hr.setS _ (do_good (hr.atS _) (hr.atS _) hd)⟩
    · cases h
  rw [if_neg c3] at h
  by_cases c4 : x.op = 11
  · rw [if_pos c4] at h
    split at h
    · rename_i hd
      cases h
      rw [Bool.and_eq_true] at hd
      exact ⟨by rw [setS_len, setS_len], (hr.setS _ (meet_good (hr.atS _) hd.2)).setS _ all_good⟩
    · cases h
  rw [if_neg c4] at h
  by_cases c5 : x.op = 12
  · rw [if_pos c5] at h
    split at h
    · rename_i hd
      cases h
      rw [Bool.and_eq_true] at hd
      exact ⟨setS_len _ _ _, hr.setS _ (meet_good (hr.atS _) hd.2)⟩
    · cases h
  rw [if_neg c5] at h
  by_cases c6 : x.op = 13
  · rw [if_pos c6] at h
    split at h
    · rename_i hd
      cases h
      exact ⟨setS_len _ _ _, hr.setS _ (meet_good (hr.atS _) hd)⟩
    · cases h
  rw [if_neg c6] at h
  by_cases c7 : x.op = 15 ∨ x.op = 16
  · rw [if_pos c7] at h
    split at h
    · cases h; exact ⟨rfl, hr⟩
    split at h
    · split at h
      · rename_i hd
        cases h
        exact ⟨setS_len _ _ _, hr.setS _ (meet_good (hr.atS _) hd)⟩
      · cases h
    · split at h
      · rename_i hd
        cases h
        exact ⟨setS_len _ _ _, hr.setS _ (wo0_good (hr.atS _) (by simpa [wo0Ok] using hd))⟩
      · cases h
  rw [if_neg c7] at h
  by_cases c8 : x.op = 17
  · rw [if_pos c8] at h
    split at h
    · cases h; exact ⟨rfl, hr⟩
    split at h
    · split at h
      · cases h; exact ⟨rfl, hr⟩
      · cases h
    split at h
    · split at h
      · rename_i hd
        cases h
        refine ⟨setS_len _ _ _, hr.setS _ ?_⟩
        obtain ⟨a1, a2, a3⟩ := hr.atS x.a
        obtain ⟨b1, b2, b3⟩ := hr.atS x.b
        unfold Gd Sp.Wf
        simp only [Sp.mx]
        split <;> omega
      · cases h
    · split at h
      · rename_i hd
        cases h
        refine ⟨setS_len _ _ _, hr.setS _ ?_⟩
        obtain ⟨a1, a2, a3⟩ := hr.atS x.a
        obtain ⟨b1, b2, b3⟩ := hr.atS x.b
        have hn : ((atS r x.a).none || (atS r x.b).none || decide ((atS r x.b).hi ≤ (atS r x.a).lo)) = false := by simpa [Sp.belowOk] using hd
        rw [Sp.belowA, hn]
        simp at hn
        unfold Gd Sp.Wf
        simp only [Sp.mn, Bool.false_eq_true, if_false]
        split <;> omega
      · cases h
  rw [if_neg c8] at h
  by_cases c9 : x.op = 18
  · rw [if_pos c9] at h
    cases h
    refine ⟨setS_len _ _ _, hr.setS _ (do_good (hr.atS _) ⟨by simp, by unfold Sp.Wf; simp⟩ ?_)⟩
    have := (hr.atS x.a).1
    simp [doOk, Sp.none]; omega
  rw [if_neg c9] at h
  by_cases c10 : x.op = 19
  · rw [if_pos c10] at h
    rw [Option.map_eq_some_iff] at h
    obtain ⟨r', h1, rfl⟩ := h
    obtain ⟨h2, h3⟩ := callD_good _ _ _ _ hr h1
    exact ⟨by rw [setS_len, h2], h3.setS _ all_good⟩
  rw [if_neg c10] at h
  cases h; exact ⟨rfl, hr⟩
end Go.Proofs.YtddobhneplfddaaDoor
