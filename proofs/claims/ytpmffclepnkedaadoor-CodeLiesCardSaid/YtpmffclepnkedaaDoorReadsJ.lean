/-
  Layer 9 (code): the iterator of Reads: for every instruction it goes through readsD, and stops where the body says no more.
-/
import Derived.Test.YtpmffclepnkedaaDoorReadsP
namespace Go.Proofs.YtpmffclepnkedaaDoor
open Go.RowKit Go.Shelf
set_option linter.unusedSimpArgs false
set_option linter.unusedVariables false

theorem iterP (n : Nat) (hn : 2 ≤ n) (l g g2 n0 n1 : Nat) (op a b c nn p : Int) (J Jx : List Int → World → Prop)
    (W : World) (hJ : AbidesFrom W.heap.size J) (hp : W.cell? ⟨g2, 0, none⟩ = some (.int .i64 p))
    (hg : g < n0 ∨ n1 ≤ g) (hn0 : n0 ≤ W.heap.size) (hn1 : n1 ≤ W.heap.size) (ht : TabOk W) (h0 : J [] W) :
    (∀ pre x W1, J pre W1 → pre.length < (readsD ⟨op, a, b, c, nn⟩ p).length → YieldAt Fence.wide (n - 1) Tryd.prog l #[.int .i64 x] W1 fun e W' =>
      (e = .returned (.bool true) ∧ J (pre ++ [x]) W' ∧ KeepI n0 n1 W1 W') ∨ (e = .returned (.bool false) ∧ Jx (pre ++ [x]) W')) →
    Whl W g 27 #[.int .i64 op, .int .i64 a, .int .i64 b, .int .i64 c, .int .i64 nn] → CallsIn Fence.wide n Tryd.prog 43 #[.func (.yield l) #[] #[], .pointer (some ⟨g, 0, none⟩), .pointer (some ⟨g2, 0, none⟩)] W fun e W' => (∃ v, e = .returned v) ∧
      ((∃ ys, ys = readsD ⟨op, a, b, c, nn⟩ p ∧ J ys W') ∨ (∃ pre, pre <+: readsD ⟨op, a, b, c, nn⟩ p ∧ Jx pre W')) := by
  cases hk : known op
  · have e : readsD ⟨op, a, b, c, nn⟩ p = [] := by
      have := known_no hk
      simp only [readsD]; rw [if_neg (by omega), hk]; rfl
    intro _ hx0
    rw [e]
    exact (iter_no n hn l g g2 op hk J W (hx0.cell 0) h0).mono fun e W' ⟨he, hj⟩ => ⟨he, .inl ⟨_, rfl, hj⟩⟩
  · refine known_cases (P := fun op => (∀ pre x W1, J pre W1 → pre.length < (readsD ⟨op, a, b, c, nn⟩ p).length → YieldAt Fence.wide (n - 1) Tryd.prog l #[.int .i64 x] W1 fun e W' =>
      (e = .returned (.bool true) ∧ J (pre ++ [x]) W' ∧ KeepI n0 n1 W1 W') ∨ (e = .returned (.bool false) ∧ Jx (pre ++ [x]) W')) →
    Whl W g 27 #[.int .i64 op, .int .i64 a, .int .i64 b, .int .i64 c, .int .i64 nn] → CallsIn Fence.wide n Tryd.prog 43 #[.func (.yield l) #[] #[], .pointer (some ⟨g, 0, none⟩), .pointer (some ⟨g2, 0, none⟩)] W fun e W' => (∃ v, e = .returned v) ∧
      ((∃ ys, ys = readsD ⟨op, a, b, c, nn⟩ p ∧ J ys W') ∨ (∃ pre, pre <+: readsD ⟨op, a, b, c, nn⟩ p ∧ Jx pre W'))) hk ?h0 ?h1 ?h2 ?h3 ?h4 ?h5 ?h6 ?h7 ?h8 ?h9 ?h10 ?h11 ?h12 ?h13 ?h14 ?h15 ?h16 ?h17 ?h18 ?h19
    case h0 =>
      intro hY hx0
      have e : readsD ⟨0, a, b, c, nn⟩ p = [a] := rfl
      rw [e] at hY ⊢
      exact iter_0 n hn l g g2 n0 n1 _ a b c nn J Jx (by simp) hY W hJ hx0 hg hn0 hn1 ht h0
    case h1 =>
      intro hY hx0
      have e : readsD ⟨1, a, b, c, nn⟩ p = [] := rfl
      rw [e] at hY ⊢
      exact iter_1 n hn l g g2 n0 n1 _ a b c nn J Jx (by simp) hY W hJ hx0 hg hn0 hn1 ht h0
    case h2 =>
      intro hY hx0
      have e : readsD ⟨2, a, b, c, nn⟩ p = [b] := rfl
      rw [e] at hY ⊢
      exact iter_2 n hn l g g2 n0 n1 _ a b c nn J Jx (by simp) hY W hJ hx0 hg hn0 hn1 ht h0
    case h3 =>
      intro hY hx0
      have e : readsD ⟨3, a, b, c, nn⟩ p = [b, c] := rfl
      rw [e] at hY ⊢
      exact iter_3 n hn l g g2 n0 n1 _ a b c nn J Jx (by simp) hY W hJ hx0 hg hn0 hn1 ht h0
    case h4 =>
      intro hY hx0
      have e : readsD ⟨4, a, b, c, nn⟩ p = [b, c] := rfl
      rw [e] at hY ⊢
      exact iter_4 n hn l g g2 n0 n1 _ a b c nn J Jx (by simp) hY W hJ hx0 hg hn0 hn1 ht h0
    case h5 =>
      intro hY hx0
      have e : readsD ⟨5, a, b, c, nn⟩ p = [b, c] := rfl
      rw [e] at hY ⊢
      exact iter_5 n hn l g g2 n0 n1 _ a b c nn J Jx (by simp) hY W hJ hx0 hg hn0 hn1 ht h0
    case h6 =>
      intro hY hx0
      have e : readsD ⟨6, a, b, c, nn⟩ p = [b, c] := rfl
      rw [e] at hY ⊢
      exact iter_6 n hn l g g2 n0 n1 _ a b c nn J Jx (by simp) hY W hJ hx0 hg hn0 hn1 ht h0
    case h7 =>
      intro hY hx0
      have e : readsD ⟨7, a, b, c, nn⟩ p = [b, c] := rfl
      rw [e] at hY ⊢
      exact iter_7 n hn l g g2 n0 n1 _ a b c nn J Jx (by simp) hY W hJ hx0 hg hn0 hn1 ht h0
    case h8 =>
      intro hY hx0
      have e : readsD ⟨8, a, b, c, nn⟩ p = [b, c] := rfl
      rw [e] at hY ⊢
      exact iter_8 n hn l g g2 n0 n1 _ a b c nn J Jx (by simp) hY W hJ hx0 hg hn0 hn1 ht h0
    case h9 =>
      intro hY hx0
      have e : readsD ⟨9, a, b, c, nn⟩ p = [b, c] := rfl
      rw [e] at hY ⊢
      exact iter_9 n hn l g g2 n0 n1 _ a b c nn J Jx (by simp) hY W hJ hx0 hg hn0 hn1 ht h0
    case h10 =>
      intro hY hx0
      have e : readsD ⟨10, a, b, c, nn⟩ p = [b] := rfl
      rw [e] at hY ⊢
      exact iter_10 n hn l g g2 n0 n1 _ a b c nn J Jx (by simp) hY W hJ hx0 hg hn0 hn1 ht h0
    case h11 =>
      intro hY hx0
      have e : readsD ⟨11, a, b, c, nn⟩ p = [b] := rfl
      rw [e] at hY ⊢
      exact iter_11 n hn l g g2 n0 n1 _ a b c nn J Jx (by simp) hY W hJ hx0 hg hn0 hn1 ht h0
    case h12 =>
      intro hY hx0
      have e : readsD ⟨12, a, b, c, nn⟩ p = [a, b] := rfl
      rw [e] at hY ⊢
      exact iter_12 n hn l g g2 n0 n1 _ a b c nn J Jx (by simp) hY W hJ hx0 hg hn0 hn1 ht h0
    case h13 =>
      intro hY hx0
      have e : readsD ⟨13, a, b, c, nn⟩ p = [a] := rfl
      rw [e] at hY ⊢
      exact iter_13 n hn l g g2 n0 n1 _ a b c nn J Jx (by simp) hY W hJ hx0 hg hn0 hn1 ht h0
    case h14 =>
      intro hY hx0
      have e : readsD ⟨14, a, b, c, nn⟩ p = [] := rfl
      rw [e] at hY ⊢
      exact iter_14 n hn l g g2 n0 n1 _ a b c nn J Jx (by simp) hY W hJ hx0 hg hn0 hn1 ht h0
    case h15 =>
      intro hY hx0
      have e : readsD ⟨15, a, b, c, nn⟩ p = [a] := rfl
      rw [e] at hY ⊢
      exact iter_15 n hn l g g2 n0 n1 _ a b c nn J Jx (by simp) hY W hJ hx0 hg hn0 hn1 ht h0
    case h16 =>
      intro hY hx0
      have e : readsD ⟨16, a, b, c, nn⟩ p = [a] := rfl
      rw [e] at hY ⊢
      exact iter_16 n hn l g g2 n0 n1 _ a b c nn J Jx (by simp) hY W hJ hx0 hg hn0 hn1 ht h0
    case h17 =>
      intro hY hx0
      have e : readsD ⟨17, a, b, c, nn⟩ p = [a, b] := rfl
      rw [e] at hY ⊢
      exact iter_17 n hn l g g2 n0 n1 _ a b c nn J Jx (by simp) hY W hJ hx0 hg hn0 hn1 ht h0
    case h18 =>
      intro hY hx0
      have e : readsD ⟨18, a, b, c, nn⟩ p = [a] := rfl
      rw [e] at hY ⊢
      exact iter_18 n hn l g g2 n0 n1 _ a b c nn J Jx (by simp) hY W hJ hx0 hg hn0 hn1 ht h0
    case h19 =>
      intro hY hx0
      have e : readsD ⟨19, a, b, c, nn⟩ p = callL b (callN p) := rfl
      rw [e] at hY ⊢
      exact iter_19 n hn l g g2 n0 n1 _ a b c nn p J Jx (by rw [callL_len]; exact Nat.le_refl _) hY W hx0 hp hg h0
/-- The iterator's contract. -/
theorem reads_stops (n : Nat) (hn : 2 ≤ n) (g g2 n0 n1 : Nat) (x : InsD) (p : Int) (w : World) (hx : Whl w g 27 #[.int .i64 x.op, .int .i64 x.a, .int .i64 x.b, .int .i64 x.c, .int .i64 x.n]) (hp : Whl w g2 3 #[.int .i64 p])
    (hg : g < n0 ∨ n1 ≤ g) (hn0 : n0 ≤ w.heap.size) (hn1 : n1 ≤ w.heap.size) (ht : TabOk w) :
    SeqStopsK Fence.wide n Tryd.prog 43 #[.pointer (some ⟨g, 0, none⟩), .pointer (some ⟨g2, 0, none⟩)] (fun y : Int => #[Value.int .i64 y]) (KeepI n0 n1) (fun ys => ys = readsD x p) (fun pre => pre <+: readsD x p) (readsD x p).length w := fun l J Jx W hW hJ _ hY h0 => by
  have hx' := hx.below' hW
  have hp' := hp.below' hW
  exact iterP n hn l g g2 n0 n1 x.op x.a x.b x.c x.n p J Jx W hJ (hp'.cell 0) hg (Nat.le_trans hn0 hW.size) (Nat.le_trans hn1 hW.size) (ht.below hW ht.size) h0 hY hx'
end Go.Proofs.YtpmffclepnkedaaDoor

