/-
  Layer 9 (code): the closure of Reads at a call, and at what is no operation.
-/
import Derived.Test.YtpmffclepnkedaaDoorKnownIn
namespace Go.Proofs.YtpmffclepnkedaaDoor
open Go.RowKit Go.Shelf
set_option linter.unusedSimpArgs false
set_option linter.unusedVariables false
attribute [local go_sem] Oper.semAt_some

set_option maxRecDepth 100000 in
set_option maxHeartbeats 4000000 in
theorem iter_no (n : Nat) (hn : 2 ≤ n) (l g g2 : Nat) (op : Int) (hk : known op = false) (J : List Int → World → Prop) (W : World)
    (hg : W.cell? ⟨g, 0, none⟩ = some (.int .i64 op)) (h0 : J [] W) :
    CallsIn Fence.wide n Tryd.prog 43 #[.func (.yield l) #[] #[], .pointer (some ⟨g, 0, none⟩), .pointer (some ⟨g2, 0, none⟩)] W fun e W' => (∃ v, e = .returned v) ∧ J [] W' := by
  have h1 : 1 ≤ n := by omega
  refine callsIn_of_wp Tryd.func43 rfl trivial ?_ rfl
  simp only [Tryd.ntmps43, List.size_toArray, List.length_cons, List.length_nil, Nat.reduceAdd, Nat.reduceSub, Array.replicate_succ, Array.replicate_zero, List.push_toArray, List.append_toArray, List.nil_append, List.cons_append]
  gi_wp2_with (refine ⟨trivial, ?_⟩; gi_at_call 10; refine (known_in Fence.wide _ trivial rfl _ _).mono ?_; rintro e w' ⟨rfl, rfl⟩)
  refine bodyPost_ret (results_none rfl _ _ _) rfl ?_
  exact ⟨⟨_, rfl⟩, h0⟩

theorem callL_pre (b : Int) {j k : Nat} (h : j ≤ k) : callL b j <+: callL b k := by
  obtain ⟨m, rfl⟩ : ∃ m, k = j + m := ⟨k - j, by omega⟩
  induction m with
  | zero => exact List.prefix_refl _
  | succ m ih => exact (ih (by omega)).trans (by rw [show j + (m + 1) = j + m + 1 from rfl, callL_succ]; exact List.prefix_append _ _)
set_option maxRecDepth 100000 in
set_option maxHeartbeats 4000000 in
theorem iter_19 (n : Nat) (hn : 2 ≤ n) (l g g2 n0 n1 N : Nat) (a b c nn p : Int) (J Jx : List Int → World → Prop) (hN : callN p ≤ N)
    (hY : ∀ pre x W1, J pre W1 → pre.length < N → YieldAt Fence.wide (n - 1) Tryd.prog l #[.int .i64 x] W1 fun e W' =>
      (e = .returned (.bool true) ∧ J (pre ++ [x]) W' ∧ KeepI n0 n1 W1 W') ∨ (e = .returned (.bool false) ∧ Jx (pre ++ [x]) W'))
    (W : World) (hx : Whl W g 27 #[.int .i64 19, .int .i64 a, .int .i64 b, .int .i64 c, .int .i64 nn]) (hp : W.cell? ⟨g2, 0, none⟩ = some (.int .i64 p))
    (hg : g < n0 ∨ n1 ≤ g) (h0 : J [] W) :
    CallsIn Fence.wide n Tryd.prog 43 #[.func (.yield l) #[] #[], .pointer (some ⟨g, 0, none⟩), .pointer (some ⟨g2, 0, none⟩)] W fun e W' => (∃ v, e = .returned v) ∧
      ((∃ ys, ys = callL b (callN p) ∧ J ys W') ∨ (∃ pre, pre <+: callL b (callN p) ∧ Jx pre W')) := by
  have hk : known 19 = true := rfl
  have y0 : W.cell? ⟨g, 0, none⟩ = some (.int .i64 19) := hx.cell 0
  have h1 : 1 ≤ n := by omega
  refine callsIn_of_wp Tryd.func43 rfl trivial ?_ rfl
  simp only [Tryd.ntmps43, List.size_toArray, List.length_cons, List.length_nil, Nat.reduceAdd, Nat.reduceSub, Array.replicate_succ, Array.replicate_zero, List.push_toArray, List.append_toArray, List.nil_append, List.cons_append]
  gi_wp2_with (refine ⟨trivial, ?_⟩; gi_at_call 10; refine (known_in Fence.wide _ trivial rfl _ _).mono ?_; rintro e w' ⟨rfl, rfl⟩)
  all_goals
    gi_loopw [15] (fun s wr => ∃ j : Nat, j ≤ callN p ∧ s = .int .i64 j ∧ J (callL b j) wr ∧ Whl wr g 27 #[.int .i64 19, .int .i64 a, .int .i64 b, .int .i64 c, .int .i64 nn]) (fun s _ => callN p - (intOf s).toNat)
    case atStart => exact ⟨0, Nat.zero_le _, rfl, h0, hx⟩
    case round =>
      obtain ⟨j, hj, rfl, hJs, hb⟩ := hrel
      have hc8 : callN p ≤ 8 := by unfold callN; split <;> (try split) <;> omega
      have x2 : wr.cell? ⟨g, 2, none⟩ = some (.int .i64 b) := hb.cell 2
      by_cases hlt : j < callN p
      · have hjp : (j : Int) < p ∧ j < 8 := by unfold callN at hlt; split at hlt <;> (try split at hlt) <;> omega
        obtain ⟨h1p, h2p⟩ := hjp
        have u1 : decide ((j : Int) < p) = true := by simpa using h1p
        have u2 : decide ((j : Int) < 8) = true := by simp; omega
        obtain ⟨fn, tmps, assign, body, hy, hR⟩ := hY (callL b j) (wrap64 (b + (j : Int))) wr hJs (by rw [callL_len]; omega)
        gi_wp2
        refine hR.mono ?_
        rintro e W3 (⟨rfl, hJ3, hk3⟩ | ⟨rfl, hJx3⟩)
        · gi_wp2
          go_roundw
          case rel => exact ⟨j + 1, by omega, by go_num, by rw [callL_succ]; exact hJ3, hk3.whlAt hg hb⟩
          case measure => simp only [intOf]; omega
        · gi_wp2
          refine bodyPost_ret (results_none rfl _ _ _) rfl ?_
          exact ⟨⟨_, rfl⟩, .inr ⟨_, callL_pre b (show j + 1 ≤ callN p by omega), by rw [callL_succ]; exact hJx3⟩⟩
      · obtain rfl : j = callN p := by omega
        have hjp : p ≤ (callN p : Int) ∨ ((callN p : Int) < p ∧ 8 ≤ callN p) := by unfold callN; split <;> (try split) <;> omega
        (try have u1 : decide ((callN p : Int) < p) = false := by simp; omega)
        (try have u2 : decide ((callN p : Int) < 8) = false := by simp; omega)
        gi_wp2
        refine bodyPost_ret (results_none rfl _ _ _) rfl ?_
        exact ⟨⟨_, rfl⟩, .inl ⟨_, rfl, hJs⟩⟩
end Go.Proofs.YtpmffclepnkedaaDoor
