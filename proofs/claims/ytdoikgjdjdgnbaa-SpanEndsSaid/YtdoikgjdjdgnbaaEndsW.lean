/-
  SpanEnds: a span that is widened again and again changes at most so often as there are thresholds, and twice more; and has all that came. No condition but the form's own reach.
-/
import Derived.Test.YtdoikgjdjdgnbaaFixed
import Derived.Test.YtdoikgjdjdgnbaaPlainE
import Derived.Test.YtdoikgjdjdgnbaaLawK
import Derived.Test.YtdoikgjdjdgnbaaKeep
import Derived.Test.YtdoikgjdjdgnbaaOpen
import Derived.Deep.SlicePairs
import Derived.Deep.CondSized
import Derived.OwnWalk
import Derived.BigQuiet
namespace Go.Proofs.Ytdoikgjdjdgnbaa
open Go.RowKit
set_option linter.unusedSimpArgs false
set_option linter.unusedVariables false
attribute [local go_sem ↓] Go.wp_at_zero Go.wp_at_succ

/-- Span number k of a row; none past its end. -/
def nthS (ss : List Sp) (k : Nat) : Sp := ss.getD k ⟨1, 0⟩
/-- A slice of spans that can be read: all below B. -/
def SpansAt (w : World) (B : Nat) (A : Option Addr) (ss : List Sp) : Prop :=
  0 < ss.length → ∃ b off, A = some ⟨b, off, none⟩ ∧ b < B ∧ ∀ k, k < ss.length → w.cell? ⟨b, off + k * 2, none⟩ = some (.int .i64 (nthS ss k).lo) ∧ w.cell? ⟨b, off + k * 2 + 1, none⟩ = some (.int .i64 (nthS ss k).hi)
structure EndMem (w : World) (g : Nat) (s : Sp) (wr : World) : Prop where
  below : Below w.heap.size w wr
  le : w.heap.size ≤ g
  at_ : Whl wr g 23 #[.int .i64 s.lo, .int .i64 s.hi]
/-- What lies in memory behind a round's widening: what stood, what stands next, the span that came. -/
structure EndX (w : World) (B g bl ol : Nat) (s n b : Sp) (X : World) : Prop where
  below : Below w.heap.size w X
  at_ : Whl X B 23 #[.int .i64 s.lo, .int .i64 s.hi]
  nx : Whl X g 23 #[.int .i64 n.lo, .int .i64 n.hi]
  l0 : X.cell? ⟨bl, ol, none⟩ = some (.int .i64 b.lo)
  l1 : X.cell? ⟨bl, ol + 1, none⟩ = some (.int .i64 b.hi)
  le : w.heap.size ≤ B
  ne : B < g
theorem whl_cell0 {w : World} {g : Nat} {t : TypeId} {a b : Value} (h : Whl w g t #[a, b]) : w.cell? ⟨g, 0, none⟩ = some a := h.cell 0
theorem whl_cell1 {w : World} {g : Nat} {t : TypeId} {a b : Value} (h : Whl w g t #[a, b]) : w.cell? ⟨g, 1, none⟩ = some b := h.cell 1
theorem below_drewN {B : Nat} {w w' : World} (h : Below B w w') (n : Nat) : Below B w (w'.drewN n) := ⟨h.os, h.tape, h.output, h.size, h.block⟩
theorem EndX.done {w X w3 w4 : World} {B g bl ol : Nat} {s n b : Sp} (h : EndX w B g bl ol s n b X) {nq : Nat} (hb3 : Below (X.drewN nq).heap.size (X.drewN nq) w3) (hb4 : Below w3.heap.size w3 w4) :
    EndMem w B n ((w4.setCell ⟨B, 0, none⟩ (.int .i64 n.lo)).setCell ⟨B, 1, none⟩ (.int .i64 n.hi)) :=
  ⟨((below_step (below_step (below_drewN h.below nq) hb3) hb4).setCell (by simpa using h.le) _).setCell (by simpa using h.le) _, h.le,
   by simpa using ((((h.at_.drewN nq).below' hb3).below' hb4).put 0 (.int .i64 n.lo)).put 1 (.int .i64 n.hi)⟩
theorem EndX.doneA {w X w4 : World} {B g bl ol : Nat} {s n b : Sp} (h : EndX w B g bl ol s n b X) {nq : Nat} (hb4 : Below (X.drewN nq).heap.size (X.drewN nq) w4) :
    EndMem w B n ((w4.setCell ⟨B, 0, none⟩ (.int .i64 n.lo)).setCell ⟨B, 1, none⟩ (.int .i64 n.hi)) :=
  ⟨((below_step (below_drewN h.below nq) hb4).setCell (by simpa using h.le) _).setCell (by simpa using h.le) _, h.le,
   by simpa using (((h.at_.drewN nq).below' hb4).put 0 (.int .i64 n.lo)).put 1 (.int .i64 n.hi)⟩
theorem cellA {w1 : World} {o : Obj} {p : Addr} {v : Value} (c : w1.cell? p = some v) : (w1.alloc o).cell? p = some v :=
  (World.cell?_alloc_lt _ _ _ (World.block_lt_of_cell? w1 _ c)).trans c
theorem cellT {w1 : World} {g : Nat} {x y : Value} {p : Addr} {v : Value} (c : w1.cell? p = some v) (h : p.block < g) : ((w1.setCell ⟨g, 0, none⟩ x).setCell ⟨g, 1, none⟩ y).cell? p = some v := by
  rw [World.cell?_setCell_other _ _ _ _ (fun e => by rw [← e] at h; simp at h), World.cell?_setCell_other _ _ _ _ (fun e => by rw [← e] at h; simp at h)]
  exact c
theorem keepE {w w1 w2 : World} (hb : Below w1.heap.size w1 w2) {p0 p1 p2 p3 : Addr} {v0 v1 v2 v3 : Value} : (Below w.heap.size w w1 ∧ w1.cell? p0 = some v0 ∧ w1.cell? p1 = some v1 ∧ w1.cell? p2 = some v2 ∧ w1.cell? p3 = some v3) →
    (Below w.heap.size w w2 ∧ w2.cell? p0 = some v0 ∧ w2.cell? p1 = some v1 ∧ w2.cell? p2 = some v2 ∧ w2.cell? p3 = some v3) := fun ⟨hB, h⟩ => ⟨below_step hB hb, keep4 hb h⟩
theorem keepEA {w w1 : World} {o : Obj} {p0 p1 p2 p3 : Addr} {v0 v1 v2 v3 : Value} : (Below w.heap.size w w1 ∧ w1.cell? p0 = some v0 ∧ w1.cell? p1 = some v1 ∧ w1.cell? p2 = some v2 ∧ w1.cell? p3 = some v3) →
    (Below w.heap.size w (w1.alloc o) ∧ (w1.alloc o).cell? p0 = some v0 ∧ (w1.alloc o).cell? p1 = some v1 ∧ (w1.alloc o).cell? p2 = some v2 ∧ (w1.alloc o).cell? p3 = some v3) := fun ⟨hB, h0, h1, h2, h3⟩ => ⟨below_alloc hB _, cellA h0, cellA h1, cellA h2, cellA h3⟩
theorem keepET {w w1 : World} {g : Nat} {x y : Value} {p0 p1 p2 p3 : Addr} {v0 v1 v2 v3 : Value} (hg : w.heap.size ≤ g) (h0 : p0.block < g) (h1 : p1.block < g) (h2 : p2.block < g) (h3 : p3.block < g) : (Below w.heap.size w w1 ∧ w1.cell? p0 = some v0 ∧ w1.cell? p1 = some v1 ∧ w1.cell? p2 = some v2 ∧ w1.cell? p3 = some v3) →
    (Below w.heap.size w ((w1.setCell ⟨g, 0, none⟩ x).setCell ⟨g, 1, none⟩ y) ∧ ((w1.setCell ⟨g, 0, none⟩ x).setCell ⟨g, 1, none⟩ y).cell? p0 = some v0 ∧ ((w1.setCell ⟨g, 0, none⟩ x).setCell ⟨g, 1, none⟩ y).cell? p1 = some v1 ∧ ((w1.setCell ⟨g, 0, none⟩ x).setCell ⟨g, 1, none⟩ y).cell? p2 = some v2 ∧ ((w1.setCell ⟨g, 0, none⟩ x).setCell ⟨g, 1, none⟩ y).cell? p3 = some v3) :=
  fun ⟨hB, c0, c1, c2, c3⟩ => ⟨(hB.setCell (by simpa using hg) _).setCell (by simpa using hg) _, cellT c0 h0, cellT c1 h1, cellT c2 h2, cellT c3 h3⟩
theorem ints_S {w w' : World} {A : Option Addr} {ts : List Int} {R : Prop} (h : Below w.heap.size w w' ∧ R) (ht : IntsAt w w.heap.size A ts) : IntsAt w' w'.heap.size A ts :=
  (ht.below h.1 (Nat.le_refl _)).more h.1.size
theorem nthS_wf {ss : List Sp} (h : ∀ s, s ∈ ss → s.Wf) (k : Nat) : (nthS ss k).Wf := by
  unfold nthS
  rw [List.getD_eq_getElem?_getD]
  cases e : ss[k]?
  · exact ⟨⟨by decide, by decide⟩, by decide, by decide⟩
  · exact h _ (List.mem_of_getElem? e)

set_option maxRecDepth 100000 in
set_option maxHeartbeats 2000000 in
theorem spanEndsW (A1 A2 : Option Addr) (c1 c2 : Nat) (ss : List Sp) (ts : List Int) (w : World) (hwf : ∀ s, s ∈ ss → s.Wf) (hm1 : ss.length ≤ 9223372036854775806) (hm2 : ts.length ≤ 9223372036854775000) (hs : SpansAt w w.heap.size A1 ss) (ht : IntsAt w w.heap.size A2 ts) :
    Calls Try.prog 10 #[.slice A1 ss.length c1, .slice A2 ts.length c2] w fun e w' => e = .returned (.bool true) ∧ Below w.heap.size w w' := by
  have HS := Lib.hid hs; clear hs
  have HT := Lib.hid ht; clear ht
  go_enter Try.func10, Try.ntmps10
  go_wp2_with (go_at_call 13; refine (fixedL _).mono ?_; rintro e w1 ⟨rfl, hb1⟩)
  go_loopw [6, 7] (fun ch i wr => ∃ (k c : Nat) (s : Sp), k ≤ ss.length ∧ c ≤ k ∧ i = .int .i64 k ∧ ch = .int .i64 c ∧ EndInv ts s c ∧ EndMem w w1.heap.size s wr) (fun _ i _ => ss.length - (intOf i).toNat)
  case atStart => exact ⟨0, 0, ⟨1, 0⟩, Nat.zero_le _, Nat.le_refl _, rfl, rfl, .inl ⟨rfl, rfl⟩, below_alloc hb1 _, hb1.size, Whl.new _ _ _⟩
  case round =>
    obtain ⟨k, c, s, hk, hck, rfl, rfl, hI, hM⟩ := hrel
    have d1 : wr.cell? ⟨w1.heap.size, 0, none⟩ = some (.int .i64 s.lo) := hM.at_.cell 0
    have d2 : wr.cell? ⟨w1.heap.size, 1, none⟩ = some (.int .i64 s.hi) := hM.at_.cell 1
    have f1 := hM.at_.frozen 0
    have f2 := hM.at_.frozen 1
    have hlt1 := hM.at_.lt
    have hle := hM.le
    by_cases hlt : k < ss.length
    · obtain ⟨bl, ol, rfl, hbl, hcs⟩ := HS.out (by omega)
      obtain ⟨e1, e2⟩ := hcs k hlt
      have e1 : wr.cell? ⟨bl, ol + k * 2, none⟩ = some (.int .i64 (nthS ss k).lo) := (hM.below.cell (p := ⟨bl, ol + k * 2, none⟩) hbl).trans e1
      have e2 : wr.cell? ⟨bl, ol + k * 2 + 1, none⟩ = some (.int .i64 (nthS ss k).hi) := (hM.below.cell (p := ⟨bl, ol + k * 2 + 1, none⟩) hbl).trans e2
      clear hcs
      go_wp2
      go_region_held3 (fun w' => Below w.heap.size w w' ∧ w'.cell? ⟨w1.heap.size, 0, none⟩ = some (.int .i64 s.lo) ∧ w'.cell? ⟨w1.heap.size, 1, none⟩ = some (.int .i64 s.hi) ∧ w'.cell? ⟨bl, ol + k * 2, none⟩ = some (.int .i64 (nthS ss k).lo) ∧ w'.cell? ⟨bl, ol + k * 2 + 1, none⟩ = some (.int .i64 (nthS ss k).hi))
        (first | exact keepE (by assumption) (by assumption) | exact keepEA (by assumption) | exact ⟨below_alloc (below_step (Below.drew hM.below) hb2) _, cellA (cellK hb2 d1), cellA (cellK hb2 d2), cellA (cellK hb2 e1), cellA (cellK hb2 e2)⟩ | exact keepET (by first | omega | (simp; omega)) (by first | omega | (simp; omega)) (by first | omega | (simp; omega)) (by first | omega | (simp; omega)) (by first | omega | (simp; omega)) (by assumption) | (refine ⟨Below.drew hM.below, ?_⟩; go_simp))
        (first | (go_at_call 26; refine (widenP s (nthS ss k) A2 c2 ts _ (by omega) (ints_S (by assumption) HT.out)).mono ?_; rintro e w2 ⟨rfl, hb2⟩; obtain ⟨hcc2, hff2⟩ := bcell hb2; have hs2 := hb2.size; (try simp at hs2); (try have l2 : wr.heap.size < w2.heap.size := (by omega))))
      · have hX : EndX w w1.heap.size w2.heap.size bl (ol + k * 2) s (widen s (nthS ss k) ts) (nthS ss k) (w2.alloc (.cells #[.int .i64 (widen s (nthS ss k) ts).lo, .int .i64 (widen s (nthS ss k) ts).hi] 23)) :=
          ⟨below_alloc (below_step (Below.drew hM.below) hb2) _, (hM.at_.drew.below' hb2).alloc _, Whl.new _ _ _, cellA (cellK hb2 e1), cellA (cellK hb2 e2), hM.le, by omega⟩
        clear hcc2 hff2
        generalize (w2.alloc (.cells #[.int .i64 (widen s (nthS ss k) ts).lo, .int .i64 (widen s (nthS ss k) ts).hi] 23)) = X at *
        generalize w2.heap.size = g at *
        have hXs : w.heap.size ≤ X.heap.size := hX.below.size
        clear hb2 hM d1 d2 f1 f2 e1 e2 hs2 hlt1
        have y1 : X.cell? ⟨w1.heap.size, 0, none⟩ = some (.int .i64 s.lo) := hX.at_.cell 0
        have y2 : X.cell? ⟨w1.heap.size, 1, none⟩ = some (.int .i64 s.hi) := hX.at_.cell 1
        have y3 : X.cell? ⟨g, 0, none⟩ = some (.int .i64 (widen s (nthS ss k) ts).lo) := hX.nx.cell 0
        have y4 : X.cell? ⟨g, 1, none⟩ = some (.int .i64 (widen s (nthS ss k) ts).hi) := hX.nx.cell 1
        have y5 := hX.at_.frozen 0
        have y6 := hX.at_.frozen 1
        have y7 := hX.at_.lt
        have y8 := hX.nx.lt
        have y9 : X.cell? ⟨bl, ol + k * 2, none⟩ = some (.int .i64 (nthS ss k).lo) := hX.l0
        have y10 : X.cell? ⟨bl, ol + k * 2 + 1, none⟩ = some (.int .i64 (nthS ss k).hi) := hX.l1
        have q1 := widen_within1 (s := s) ts (nthS_wf hwf k)
        have q2 := widen_within2 (s := s) ts (nthS_wf hwf k)
        have wb := nthS_wf hwf k
        by_cases b0 : (nthS ss k).hi < (nthS ss k).lo
        · have i1 := inv_same (b := (nthS ss k)) hI (.inl (by simpa [Sp.none] using b0))
          have b0' : decide ((nthS ss k).lo ≤ (nthS ss k).hi) = false := by simpa using b0
          go_wp2
          go_quiet (fail)
          go_wp2_with (go_at_call 30; with_reducible refine (withinY _ _ q1 _).mono ?_; rintro e w4 ⟨rfl, hb4⟩; have t4 := (hX.at_.drewN _).below' hb4; have u4 := (hX.nx.drewN _).below' hb4; have l4 : w1.heap.size < w4.heap.size := t4.lt; have v1 : w4.cell? ⟨w1.heap.size, 0, none⟩ = some (.int .i64 s.lo) := whl_cell0 t4; have v2 : w4.cell? ⟨w1.heap.size, 1, none⟩ = some (.int .i64 s.hi) := whl_cell1 t4; have v3 : w4.cell? ⟨g, 0, none⟩ = some (.int .i64 (widen s (nthS ss k) ts).lo) := whl_cell0 u4; have v4 : w4.cell? ⟨g, 1, none⟩ = some (.int .i64 (widen s (nthS ss k) ts).hi) := whl_cell1 u4; have v5 := t4.frozen 0; have v6 := t4.frozen 1)
          go_roundw
          case' rel => exact ⟨k + 1, c, (widen s (nthS ss k) ts), by omega, by omega, by go_num, (by first | rfl | go_num), i1, hX.doneA hb4⟩
          all_goals (try (simp only [intOf]; omega))
        have b1 : (nthS ss k).lo ≤ (nthS ss k).hi := by omega
        by_cases s0 : s.hi < s.lo
        · have i1 := inv_same (b := (nthS ss k)) hI (.inr (.inl (by simpa [Sp.none] using s0)))
          go_wp2
          go_quiet (fail)
          go_wp2
          go_region_held3 (fun w' => w'.cell? ⟨bl, ol + k * 2, none⟩ = some (.int .i64 (nthS ss k).lo) ∧ w'.cell? ⟨bl, ol + k * 2 + 1, none⟩ = some (.int .i64 (nthS ss k).hi) ∧ w'.cell? ⟨g, 0, none⟩ = some (.int .i64 (widen s (nthS ss k) ts).lo) ∧ w'.cell? ⟨g, 1, none⟩ = some (.int .i64 (widen s (nthS ss k) ts).hi))
            (first | exact keep4 (by assumption) (by assumption) | (go_simp; done))
            (first | (go_at_call 30; with_reducible refine (withinY _ _ q2 _).mono ?_; rintro e w3 ⟨rfl, hb3⟩; have t3 := (hX.at_.drewN _).below' hb3; have u3 := (hX.nx.drewN _).below' hb3; have l3 : w1.heap.size < w3.heap.size := t3.lt; have z1 : w3.cell? ⟨w1.heap.size, 0, none⟩ = some (.int .i64 s.lo) := whl_cell0 t3; have z2 : w3.cell? ⟨w1.heap.size, 1, none⟩ = some (.int .i64 s.hi) := whl_cell1 t3; have z3 : w3.cell? ⟨g, 0, none⟩ = some (.int .i64 (widen s (nthS ss k) ts).lo) := whl_cell0 u3; have z4 : w3.cell? ⟨g, 1, none⟩ = some (.int .i64 (widen s (nthS ss k) ts).hi) := whl_cell1 u3))
          go_wp2_with (go_at_call 30; with_reducible refine (withinY _ _ q1 _).mono ?_; rintro e w4 ⟨rfl, hb4⟩; have t4 := t3.below' hb4; have u4 := u3.below' hb4; have l4 : w1.heap.size < w4.heap.size := t4.lt; have v1 : w4.cell? ⟨w1.heap.size, 0, none⟩ = some (.int .i64 s.lo) := whl_cell0 t4; have v2 : w4.cell? ⟨w1.heap.size, 1, none⟩ = some (.int .i64 s.hi) := whl_cell1 t4; have v3 : w4.cell? ⟨g, 0, none⟩ = some (.int .i64 (widen s (nthS ss k) ts).lo) := whl_cell0 u4; have v4 : w4.cell? ⟨g, 1, none⟩ = some (.int .i64 (widen s (nthS ss k) ts).hi) := whl_cell1 u4; have v5 := t4.frozen 0; have v6 := t4.frozen 1)
          go_roundw
          case' rel => exact ⟨k + 1, c, (widen s (nthS ss k) ts), by omega, by omega, by go_num, (by first | rfl | go_num), i1, hX.done hb3 hb4⟩
          all_goals (try (simp only [intOf]; omega))
        have s1 : s.lo ≤ s.hi := by omega
        cases n1 : ((widen s (nthS ss k) ts).lo == s.lo)
        · have i1 := inv_change hI wb (by simpa [Sp.none] using b1) (by simpa [Sp.none] using s1) (.inl (by simpa using n1))
          go_wp2
          go_quiet (fail)
          go_wp2
          go_region_held3 (fun w' => w'.cell? ⟨bl, ol + k * 2, none⟩ = some (.int .i64 (nthS ss k).lo) ∧ w'.cell? ⟨bl, ol + k * 2 + 1, none⟩ = some (.int .i64 (nthS ss k).hi) ∧ w'.cell? ⟨g, 0, none⟩ = some (.int .i64 (widen s (nthS ss k) ts).lo) ∧ w'.cell? ⟨g, 1, none⟩ = some (.int .i64 (widen s (nthS ss k) ts).hi))
            (first | exact keep4 (by assumption) (by assumption) | (go_simp; done))
            (first | (go_at_call 30; with_reducible refine (withinY _ _ q2 _).mono ?_; rintro e w3 ⟨rfl, hb3⟩; have t3 := (hX.at_.drewN _).below' hb3; have u3 := (hX.nx.drewN _).below' hb3; have l3 : w1.heap.size < w3.heap.size := t3.lt; have z1 : w3.cell? ⟨w1.heap.size, 0, none⟩ = some (.int .i64 s.lo) := whl_cell0 t3; have z2 : w3.cell? ⟨w1.heap.size, 1, none⟩ = some (.int .i64 s.hi) := whl_cell1 t3; have z3 : w3.cell? ⟨g, 0, none⟩ = some (.int .i64 (widen s (nthS ss k) ts).lo) := whl_cell0 u3; have z4 : w3.cell? ⟨g, 1, none⟩ = some (.int .i64 (widen s (nthS ss k) ts).hi) := whl_cell1 u3))
          go_wp2_with (go_at_call 30; with_reducible refine (withinY _ _ q1 _).mono ?_; rintro e w4 ⟨rfl, hb4⟩; have t4 := t3.below' hb4; have u4 := u3.below' hb4; have l4 : w1.heap.size < w4.heap.size := t4.lt; have v1 : w4.cell? ⟨w1.heap.size, 0, none⟩ = some (.int .i64 s.lo) := whl_cell0 t4; have v2 : w4.cell? ⟨w1.heap.size, 1, none⟩ = some (.int .i64 s.hi) := whl_cell1 t4; have v3 : w4.cell? ⟨g, 0, none⟩ = some (.int .i64 (widen s (nthS ss k) ts).lo) := whl_cell0 u4; have v4 : w4.cell? ⟨g, 1, none⟩ = some (.int .i64 (widen s (nthS ss k) ts).hi) := whl_cell1 u4; have v5 := t4.frozen 0; have v6 := t4.frozen 1)
          go_roundw
          case' rel => exact ⟨k + 1, c + 1, (widen s (nthS ss k) ts), by omega, by omega, by go_num, (by first | rfl | go_num), i1, hX.done hb3 hb4⟩
          all_goals (try (simp only [intOf]; omega))
        cases n2 : ((widen s (nthS ss k) ts).hi == s.hi)
        · have i1 := inv_change hI wb (by simpa [Sp.none] using b1) (by simpa [Sp.none] using s1) (.inr (by simpa using n2))
          go_wp2
          go_quiet (fail)
          go_wp2
          go_region_held3 (fun w' => w'.cell? ⟨bl, ol + k * 2, none⟩ = some (.int .i64 (nthS ss k).lo) ∧ w'.cell? ⟨bl, ol + k * 2 + 1, none⟩ = some (.int .i64 (nthS ss k).hi) ∧ w'.cell? ⟨g, 0, none⟩ = some (.int .i64 (widen s (nthS ss k) ts).lo) ∧ w'.cell? ⟨g, 1, none⟩ = some (.int .i64 (widen s (nthS ss k) ts).hi))
            (first | exact keep4 (by assumption) (by assumption) | (go_simp; done))
            (first | (go_at_call 30; with_reducible refine (withinY _ _ q2 _).mono ?_; rintro e w3 ⟨rfl, hb3⟩; have t3 := (hX.at_.drewN _).below' hb3; have u3 := (hX.nx.drewN _).below' hb3; have l3 : w1.heap.size < w3.heap.size := t3.lt; have z1 : w3.cell? ⟨w1.heap.size, 0, none⟩ = some (.int .i64 s.lo) := whl_cell0 t3; have z2 : w3.cell? ⟨w1.heap.size, 1, none⟩ = some (.int .i64 s.hi) := whl_cell1 t3; have z3 : w3.cell? ⟨g, 0, none⟩ = some (.int .i64 (widen s (nthS ss k) ts).lo) := whl_cell0 u3; have z4 : w3.cell? ⟨g, 1, none⟩ = some (.int .i64 (widen s (nthS ss k) ts).hi) := whl_cell1 u3))
          go_wp2_with (go_at_call 30; with_reducible refine (withinY _ _ q1 _).mono ?_; rintro e w4 ⟨rfl, hb4⟩; have t4 := t3.below' hb4; have u4 := u3.below' hb4; have l4 : w1.heap.size < w4.heap.size := t4.lt; have v1 : w4.cell? ⟨w1.heap.size, 0, none⟩ = some (.int .i64 s.lo) := whl_cell0 t4; have v2 : w4.cell? ⟨w1.heap.size, 1, none⟩ = some (.int .i64 s.hi) := whl_cell1 t4; have v3 : w4.cell? ⟨g, 0, none⟩ = some (.int .i64 (widen s (nthS ss k) ts).lo) := whl_cell0 u4; have v4 : w4.cell? ⟨g, 1, none⟩ = some (.int .i64 (widen s (nthS ss k) ts).hi) := whl_cell1 u4; have v5 := t4.frozen 0; have v6 := t4.frozen 1)
          go_roundw
          case' rel => exact ⟨k + 1, c + 1, (widen s (nthS ss k) ts), by omega, by omega, by go_num, (by first | rfl | go_num), i1, hX.done hb3 hb4⟩
          all_goals (try (simp only [intOf]; omega))
        · have i1 := inv_same hI (.inr (.inr ⟨by simpa using n1, by simpa using n2⟩))
          go_wp2
          go_quiet (fail)
          go_wp2
          go_region_held3 (fun w' => w'.cell? ⟨bl, ol + k * 2, none⟩ = some (.int .i64 (nthS ss k).lo) ∧ w'.cell? ⟨bl, ol + k * 2 + 1, none⟩ = some (.int .i64 (nthS ss k).hi) ∧ w'.cell? ⟨g, 0, none⟩ = some (.int .i64 (widen s (nthS ss k) ts).lo) ∧ w'.cell? ⟨g, 1, none⟩ = some (.int .i64 (widen s (nthS ss k) ts).hi))
            (first | exact keep4 (by assumption) (by assumption) | (go_simp; done))
            (first | (go_at_call 30; with_reducible refine (withinY _ _ q2 _).mono ?_; rintro e w3 ⟨rfl, hb3⟩; have t3 := (hX.at_.drewN _).below' hb3; have u3 := (hX.nx.drewN _).below' hb3; have l3 : w1.heap.size < w3.heap.size := t3.lt; have z1 : w3.cell? ⟨w1.heap.size, 0, none⟩ = some (.int .i64 s.lo) := whl_cell0 t3; have z2 : w3.cell? ⟨w1.heap.size, 1, none⟩ = some (.int .i64 s.hi) := whl_cell1 t3; have z3 : w3.cell? ⟨g, 0, none⟩ = some (.int .i64 (widen s (nthS ss k) ts).lo) := whl_cell0 u3; have z4 : w3.cell? ⟨g, 1, none⟩ = some (.int .i64 (widen s (nthS ss k) ts).hi) := whl_cell1 u3))
          go_wp2_with (go_at_call 30; with_reducible refine (withinY _ _ q1 _).mono ?_; rintro e w4 ⟨rfl, hb4⟩; have t4 := t3.below' hb4; have u4 := u3.below' hb4; have l4 : w1.heap.size < w4.heap.size := t4.lt; have v1 : w4.cell? ⟨w1.heap.size, 0, none⟩ = some (.int .i64 s.lo) := whl_cell0 t4; have v2 : w4.cell? ⟨w1.heap.size, 1, none⟩ = some (.int .i64 s.hi) := whl_cell1 t4; have v3 : w4.cell? ⟨g, 0, none⟩ = some (.int .i64 (widen s (nthS ss k) ts).lo) := whl_cell0 u4; have v4 : w4.cell? ⟨g, 1, none⟩ = some (.int .i64 (widen s (nthS ss k) ts).hi) := whl_cell1 u4; have v5 := t4.frozen 0; have v6 := t4.frozen 1)
          go_roundw
          case' rel => exact ⟨k + 1, c, (widen s (nthS ss k) ts), by omega, by omega, by go_num, (by first | rfl | go_num), i1, hX.done hb3 hb4⟩
          all_goals (try (simp only [intOf]; omega))
      · have hX : EndX w w1.heap.size wr.heap.size bl (ol + k * 2) s (widen s (nthS ss k) ts) (nthS ss k) ((w2.setCell ⟨wr.heap.size, 0, none⟩ (.int .i64 (widen s (nthS ss k) ts).lo)).setCell ⟨wr.heap.size, 1, none⟩ (.int .i64 (widen s (nthS ss k) ts).hi)) :=
          ⟨((below_step (below_alloc (Below.drew hM.below) _) hb2).setCell (by have := hM.below.size; simpa using this) _).setCell (by have := hM.below.size; simpa using this) _,
           (((hM.at_.drew.alloc _).below' hb2).far (by simp; omega) _).far (by simp; omega) _,
           by simpa using (((Whl.new wr.drew 23 #[.int .i64 0, .int .i64 0]).below' hb2).put 0 (.int .i64 (widen s (nthS ss k) ts).lo)).put 1 (.int .i64 (widen s (nthS ss k) ts).hi),
           cellT (cellK hb2 (cellA e1)) (by simp; omega), cellT (cellK hb2 (cellA e2)) (by simp; omega), hM.le, hlt1⟩
        clear hcc2 hff2
        generalize ((w2.setCell ⟨wr.heap.size, 0, none⟩ (.int .i64 (widen s (nthS ss k) ts).lo)).setCell ⟨wr.heap.size, 1, none⟩ (.int .i64 (widen s (nthS ss k) ts).hi)) = X at *
        generalize wr.heap.size = g at *
        have hXs : w.heap.size ≤ X.heap.size := hX.below.size
        clear hb2 hM d1 d2 f1 f2 e1 e2 hs2 
        have y1 : X.cell? ⟨w1.heap.size, 0, none⟩ = some (.int .i64 s.lo) := hX.at_.cell 0
        have y2 : X.cell? ⟨w1.heap.size, 1, none⟩ = some (.int .i64 s.hi) := hX.at_.cell 1
        have y3 : X.cell? ⟨g, 0, none⟩ = some (.int .i64 (widen s (nthS ss k) ts).lo) := hX.nx.cell 0
        have y4 : X.cell? ⟨g, 1, none⟩ = some (.int .i64 (widen s (nthS ss k) ts).hi) := hX.nx.cell 1
        have y5 := hX.at_.frozen 0
        have y6 := hX.at_.frozen 1
        have y7 := hX.at_.lt
        have y8 := hX.nx.lt
        have y9 : X.cell? ⟨bl, ol + k * 2, none⟩ = some (.int .i64 (nthS ss k).lo) := hX.l0
        have y10 : X.cell? ⟨bl, ol + k * 2 + 1, none⟩ = some (.int .i64 (nthS ss k).hi) := hX.l1
        have q1 := widen_within1 (s := s) ts (nthS_wf hwf k)
        have q2 := widen_within2 (s := s) ts (nthS_wf hwf k)
        have wb := nthS_wf hwf k
        by_cases b0 : (nthS ss k).hi < (nthS ss k).lo
        · have i1 := inv_same (b := (nthS ss k)) hI (.inl (by simpa [Sp.none] using b0))
          have b0' : decide ((nthS ss k).lo ≤ (nthS ss k).hi) = false := by simpa using b0
          go_wp2
          go_quiet (fail)
          go_wp2_with (go_at_call 30; with_reducible refine (withinY _ _ q1 _).mono ?_; rintro e w4 ⟨rfl, hb4⟩; have t4 := (hX.at_.drewN _).below' hb4; have u4 := (hX.nx.drewN _).below' hb4; have l4 : w1.heap.size < w4.heap.size := t4.lt; have v1 : w4.cell? ⟨w1.heap.size, 0, none⟩ = some (.int .i64 s.lo) := whl_cell0 t4; have v2 : w4.cell? ⟨w1.heap.size, 1, none⟩ = some (.int .i64 s.hi) := whl_cell1 t4; have v3 : w4.cell? ⟨g, 0, none⟩ = some (.int .i64 (widen s (nthS ss k) ts).lo) := whl_cell0 u4; have v4 : w4.cell? ⟨g, 1, none⟩ = some (.int .i64 (widen s (nthS ss k) ts).hi) := whl_cell1 u4; have v5 := t4.frozen 0; have v6 := t4.frozen 1)
          go_roundw
          case' rel => exact ⟨k + 1, c, (widen s (nthS ss k) ts), by omega, by omega, by go_num, (by first | rfl | go_num), i1, hX.doneA hb4⟩
          all_goals (try (simp only [intOf]; omega))
        have b1 : (nthS ss k).lo ≤ (nthS ss k).hi := by omega
        by_cases s0 : s.hi < s.lo
        · have i1 := inv_same (b := (nthS ss k)) hI (.inr (.inl (by simpa [Sp.none] using s0)))
          go_wp2
          go_quiet (fail)
          go_wp2
          go_region_held3 (fun w' => w'.cell? ⟨bl, ol + k * 2, none⟩ = some (.int .i64 (nthS ss k).lo) ∧ w'.cell? ⟨bl, ol + k * 2 + 1, none⟩ = some (.int .i64 (nthS ss k).hi) ∧ w'.cell? ⟨g, 0, none⟩ = some (.int .i64 (widen s (nthS ss k) ts).lo) ∧ w'.cell? ⟨g, 1, none⟩ = some (.int .i64 (widen s (nthS ss k) ts).hi))
            (first | exact keep4 (by assumption) (by assumption) | (go_simp; done))
            (first | (go_at_call 30; with_reducible refine (withinY _ _ q2 _).mono ?_; rintro e w3 ⟨rfl, hb3⟩; have t3 := (hX.at_.drewN _).below' hb3; have u3 := (hX.nx.drewN _).below' hb3; have l3 : w1.heap.size < w3.heap.size := t3.lt; have z1 : w3.cell? ⟨w1.heap.size, 0, none⟩ = some (.int .i64 s.lo) := whl_cell0 t3; have z2 : w3.cell? ⟨w1.heap.size, 1, none⟩ = some (.int .i64 s.hi) := whl_cell1 t3; have z3 : w3.cell? ⟨g, 0, none⟩ = some (.int .i64 (widen s (nthS ss k) ts).lo) := whl_cell0 u3; have z4 : w3.cell? ⟨g, 1, none⟩ = some (.int .i64 (widen s (nthS ss k) ts).hi) := whl_cell1 u3))
          go_wp2_with (go_at_call 30; with_reducible refine (withinY _ _ q1 _).mono ?_; rintro e w4 ⟨rfl, hb4⟩; have t4 := t3.below' hb4; have u4 := u3.below' hb4; have l4 : w1.heap.size < w4.heap.size := t4.lt; have v1 : w4.cell? ⟨w1.heap.size, 0, none⟩ = some (.int .i64 s.lo) := whl_cell0 t4; have v2 : w4.cell? ⟨w1.heap.size, 1, none⟩ = some (.int .i64 s.hi) := whl_cell1 t4; have v3 : w4.cell? ⟨g, 0, none⟩ = some (.int .i64 (widen s (nthS ss k) ts).lo) := whl_cell0 u4; have v4 : w4.cell? ⟨g, 1, none⟩ = some (.int .i64 (widen s (nthS ss k) ts).hi) := whl_cell1 u4; have v5 := t4.frozen 0; have v6 := t4.frozen 1)
          go_roundw
          case' rel => exact ⟨k + 1, c, (widen s (nthS ss k) ts), by omega, by omega, by go_num, (by first | rfl | go_num), i1, hX.done hb3 hb4⟩
          all_goals (try (simp only [intOf]; omega))
        have s1 : s.lo ≤ s.hi := by omega
        cases n1 : ((widen s (nthS ss k) ts).lo == s.lo)
        · have i1 := inv_change hI wb (by simpa [Sp.none] using b1) (by simpa [Sp.none] using s1) (.inl (by simpa using n1))
          go_wp2
          go_quiet (fail)
          go_wp2
          go_region_held3 (fun w' => w'.cell? ⟨bl, ol + k * 2, none⟩ = some (.int .i64 (nthS ss k).lo) ∧ w'.cell? ⟨bl, ol + k * 2 + 1, none⟩ = some (.int .i64 (nthS ss k).hi) ∧ w'.cell? ⟨g, 0, none⟩ = some (.int .i64 (widen s (nthS ss k) ts).lo) ∧ w'.cell? ⟨g, 1, none⟩ = some (.int .i64 (widen s (nthS ss k) ts).hi))
            (first | exact keep4 (by assumption) (by assumption) | (go_simp; done))
            (first | (go_at_call 30; with_reducible refine (withinY _ _ q2 _).mono ?_; rintro e w3 ⟨rfl, hb3⟩; have t3 := (hX.at_.drewN _).below' hb3; have u3 := (hX.nx.drewN _).below' hb3; have l3 : w1.heap.size < w3.heap.size := t3.lt; have z1 : w3.cell? ⟨w1.heap.size, 0, none⟩ = some (.int .i64 s.lo) := whl_cell0 t3; have z2 : w3.cell? ⟨w1.heap.size, 1, none⟩ = some (.int .i64 s.hi) := whl_cell1 t3; have z3 : w3.cell? ⟨g, 0, none⟩ = some (.int .i64 (widen s (nthS ss k) ts).lo) := whl_cell0 u3; have z4 : w3.cell? ⟨g, 1, none⟩ = some (.int .i64 (widen s (nthS ss k) ts).hi) := whl_cell1 u3))
          go_wp2_with (go_at_call 30; with_reducible refine (withinY _ _ q1 _).mono ?_; rintro e w4 ⟨rfl, hb4⟩; have t4 := t3.below' hb4; have u4 := u3.below' hb4; have l4 : w1.heap.size < w4.heap.size := t4.lt; have v1 : w4.cell? ⟨w1.heap.size, 0, none⟩ = some (.int .i64 s.lo) := whl_cell0 t4; have v2 : w4.cell? ⟨w1.heap.size, 1, none⟩ = some (.int .i64 s.hi) := whl_cell1 t4; have v3 : w4.cell? ⟨g, 0, none⟩ = some (.int .i64 (widen s (nthS ss k) ts).lo) := whl_cell0 u4; have v4 : w4.cell? ⟨g, 1, none⟩ = some (.int .i64 (widen s (nthS ss k) ts).hi) := whl_cell1 u4; have v5 := t4.frozen 0; have v6 := t4.frozen 1)
          go_roundw
          case' rel => exact ⟨k + 1, c + 1, (widen s (nthS ss k) ts), by omega, by omega, by go_num, (by first | rfl | go_num), i1, hX.done hb3 hb4⟩
          all_goals (try (simp only [intOf]; omega))
        cases n2 : ((widen s (nthS ss k) ts).hi == s.hi)
        · have i1 := inv_change hI wb (by simpa [Sp.none] using b1) (by simpa [Sp.none] using s1) (.inr (by simpa using n2))
          go_wp2
          go_quiet (fail)
          go_wp2
          go_region_held3 (fun w' => w'.cell? ⟨bl, ol + k * 2, none⟩ = some (.int .i64 (nthS ss k).lo) ∧ w'.cell? ⟨bl, ol + k * 2 + 1, none⟩ = some (.int .i64 (nthS ss k).hi) ∧ w'.cell? ⟨g, 0, none⟩ = some (.int .i64 (widen s (nthS ss k) ts).lo) ∧ w'.cell? ⟨g, 1, none⟩ = some (.int .i64 (widen s (nthS ss k) ts).hi))
            (first | exact keep4 (by assumption) (by assumption) | (go_simp; done))
            (first | (go_at_call 30; with_reducible refine (withinY _ _ q2 _).mono ?_; rintro e w3 ⟨rfl, hb3⟩; have t3 := (hX.at_.drewN _).below' hb3; have u3 := (hX.nx.drewN _).below' hb3; have l3 : w1.heap.size < w3.heap.size := t3.lt; have z1 : w3.cell? ⟨w1.heap.size, 0, none⟩ = some (.int .i64 s.lo) := whl_cell0 t3; have z2 : w3.cell? ⟨w1.heap.size, 1, none⟩ = some (.int .i64 s.hi) := whl_cell1 t3; have z3 : w3.cell? ⟨g, 0, none⟩ = some (.int .i64 (widen s (nthS ss k) ts).lo) := whl_cell0 u3; have z4 : w3.cell? ⟨g, 1, none⟩ = some (.int .i64 (widen s (nthS ss k) ts).hi) := whl_cell1 u3))
          go_wp2_with (go_at_call 30; with_reducible refine (withinY _ _ q1 _).mono ?_; rintro e w4 ⟨rfl, hb4⟩; have t4 := t3.below' hb4; have u4 := u3.below' hb4; have l4 : w1.heap.size < w4.heap.size := t4.lt; have v1 : w4.cell? ⟨w1.heap.size, 0, none⟩ = some (.int .i64 s.lo) := whl_cell0 t4; have v2 : w4.cell? ⟨w1.heap.size, 1, none⟩ = some (.int .i64 s.hi) := whl_cell1 t4; have v3 : w4.cell? ⟨g, 0, none⟩ = some (.int .i64 (widen s (nthS ss k) ts).lo) := whl_cell0 u4; have v4 : w4.cell? ⟨g, 1, none⟩ = some (.int .i64 (widen s (nthS ss k) ts).hi) := whl_cell1 u4; have v5 := t4.frozen 0; have v6 := t4.frozen 1)
          go_roundw
          case' rel => exact ⟨k + 1, c + 1, (widen s (nthS ss k) ts), by omega, by omega, by go_num, (by first | rfl | go_num), i1, hX.done hb3 hb4⟩
          all_goals (try (simp only [intOf]; omega))
        · have i1 := inv_same hI (.inr (.inr ⟨by simpa using n1, by simpa using n2⟩))
          go_wp2
          go_quiet (fail)
          go_wp2
          go_region_held3 (fun w' => w'.cell? ⟨bl, ol + k * 2, none⟩ = some (.int .i64 (nthS ss k).lo) ∧ w'.cell? ⟨bl, ol + k * 2 + 1, none⟩ = some (.int .i64 (nthS ss k).hi) ∧ w'.cell? ⟨g, 0, none⟩ = some (.int .i64 (widen s (nthS ss k) ts).lo) ∧ w'.cell? ⟨g, 1, none⟩ = some (.int .i64 (widen s (nthS ss k) ts).hi))
            (first | exact keep4 (by assumption) (by assumption) | (go_simp; done))
            (first | (go_at_call 30; with_reducible refine (withinY _ _ q2 _).mono ?_; rintro e w3 ⟨rfl, hb3⟩; have t3 := (hX.at_.drewN _).below' hb3; have u3 := (hX.nx.drewN _).below' hb3; have l3 : w1.heap.size < w3.heap.size := t3.lt; have z1 : w3.cell? ⟨w1.heap.size, 0, none⟩ = some (.int .i64 s.lo) := whl_cell0 t3; have z2 : w3.cell? ⟨w1.heap.size, 1, none⟩ = some (.int .i64 s.hi) := whl_cell1 t3; have z3 : w3.cell? ⟨g, 0, none⟩ = some (.int .i64 (widen s (nthS ss k) ts).lo) := whl_cell0 u3; have z4 : w3.cell? ⟨g, 1, none⟩ = some (.int .i64 (widen s (nthS ss k) ts).hi) := whl_cell1 u3))
          go_wp2_with (go_at_call 30; with_reducible refine (withinY _ _ q1 _).mono ?_; rintro e w4 ⟨rfl, hb4⟩; have t4 := t3.below' hb4; have u4 := u3.below' hb4; have l4 : w1.heap.size < w4.heap.size := t4.lt; have v1 : w4.cell? ⟨w1.heap.size, 0, none⟩ = some (.int .i64 s.lo) := whl_cell0 t4; have v2 : w4.cell? ⟨w1.heap.size, 1, none⟩ = some (.int .i64 s.hi) := whl_cell1 t4; have v3 : w4.cell? ⟨g, 0, none⟩ = some (.int .i64 (widen s (nthS ss k) ts).lo) := whl_cell0 u4; have v4 : w4.cell? ⟨g, 1, none⟩ = some (.int .i64 (widen s (nthS ss k) ts).hi) := whl_cell1 u4; have v5 := t4.frozen 0; have v6 := t4.frozen 1)
          go_roundw
          case' rel => exact ⟨k + 1, c, (widen s (nthS ss k) ts), by omega, by omega, by go_num, (by first | rfl | go_num), i1, hX.done hb3 hb4⟩
          all_goals (try (simp only [intOf]; omega))
    · obtain rfl : k = ss.length := by omega
      have hfin : c ≤ ts.length + 2 := by rcases hI with ⟨_, rfl⟩ | ⟨_, h⟩ <;> omega
      go_wp2
      go_ret
      refine ⟨by simp; omega, ?_⟩
      go_light
      exact hM.below
end Go.Proofs.Ytdoikgjdjdgnbaa

