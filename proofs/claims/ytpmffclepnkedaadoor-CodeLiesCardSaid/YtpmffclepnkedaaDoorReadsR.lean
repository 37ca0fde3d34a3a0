/-
  Layer 9 (code): Reads of the reference: the registers that an instruction reads, as a slice of its own.
-/
import Derived.Test.YtpmffclepnkedaaDoorRefA
import Derived.Maps.AppendAt
import Derived.OwnWalk
namespace Go.Proofs.YtpmffclepnkedaaDoor
open Go.RowKit
set_option linter.unusedSimpArgs false
set_option linter.unusedVariables false
attribute [local go_sem ↓] Go.wp_at_zero Go.wp_at_succ

def callN (p : Int) : Nat := if p ≤ 0 then 0 else if 8 ≤ p then 8 else p.toNat
/-- The registers that an instruction reads, with so many arguments. -/
def readsD (x : InsD) (p : Int) : List Int :=
  if x.op = 19 then (List.range (callN p)).map (fun (i : Nat) => wrap64 (x.b + (i : Int))) else
  if known x.op = true then (if ((row x.op.toNat).a && (!(row x.op.toNat).wr || x.op == 18)) = true then [x.a] else []) ++ ((if (row x.op.toNat).b = true then [x.b] else []) ++ (if (row x.op.toNat).c = true then [x.c] else [])) else []
theorem infoI : (Tryd.prog.info? 3).map (fun i => (i.zero, i.size, i.bytes)) = some (some (.int .i64 0), 1, 8) := by kernel_rfl
/-- An owned row of integers is a slice of integers that can be read. -/
theorem ints_of_own {w : World} {base : Nat} {e : TypeId} {v : Value} {ts : List Int} {n : Nat} (hn : n = ts.length) (h : w.ownsRow base e 1 v n (ts.map (Value.int .i64))) :
    ∃ A c, v = .slice A ts.length c ∧ IntsAt w w.heap.size A ts := by
  subst hn
  have hlt := h.lt
  rcases h with ⟨hl, ⟨rfl, h0⟩ | ⟨g, cap, cur, rfl, hb, hh, hnc, hm, hs, ht⟩⟩
  · refine ⟨none, 0, by rw [h0], fun hp => by omega⟩
  · refine ⟨some ⟨g, 0, none⟩, cap, rfl, fun hp => ⟨g, 0, rfl, (hlt g rfl).2, fun k hk => ?_⟩⟩
    have hc : w.cell? ⟨g, 0 + k, none⟩ = cur[k]? := by simp [World.cell?, hh]
    rw [hc]
    have h1 : (cur.toList.take (ts.length * 1))[k]? = (ts.map (Value.int .i64))[k]? := by rw [ht]
    rw [List.getElem?_take_of_lt (by omega), Array.getElem?_toList] at h1
    rw [h1]
    simp [nthI, hk]
theorem ownsRow_made1 (w : World) (o : Obj) (e : TypeId) : ((w.alloc o).alloc (.cells #[] e)).ownsRow w.heap.size e 1 (.slice (some ⟨w.heap.size + 1, 0, none⟩) 0 0) 0 [] := by
  have := World.ownsRow_made (base := w.heap.size) (e := e) (size := 1) (w.alloc o) #[] 0 (by simp) (by decide) rfl
  rwa [World.size_alloc] at this
theorem cell_two_new (w : World) (t : TypeId) (u v : Value) : ∀ (j : Nat) (y : Value), [u, v][j]? = some y → (w.alloc (.cells #[u, v] t)).cell? ((⟨w.heap.size, 0, none⟩ : Addr).add j) = some y := by
  intro j y h
  have hj : j < 2 := by
    rcases Nat.lt_or_ge j 2 with h1 | h1
    · exact h1
    · rw [List.getElem?_eq_none (by simpa using h1)] at h; cases h
  rw [Go.WideShapes.add_plain]
  obtain rfl | rfl : j = 0 ∨ j = 1 := by omega
  · have e : (w.alloc (.cells #[u, v] t)).cell? ⟨w.heap.size, 0 + 0, none⟩ = some u := (Whl.new w t #[u, v]).cell 0
    rw [e]; exact h
  · have e : (w.alloc (.cells #[u, v] t)).cell? ⟨w.heap.size, 0 + 1, none⟩ = some v := (Whl.new w t #[u, v]).cell 1
    rw [e]; exact h
/-- What is known behind 'out = append(out, ..)'. -/
theorem reads_after {w w1 : World} {o : Obj} {os : List Obj} {v1 : Value} {ts : List Int} {n : Nat} {W : World} (hn : n = ts.length) (hW : Below w.heap.size w W) {row : Option Nat} (hrow : row = some (w.heap.size + 1))
    (hown : w1.ownsRow w.heap.size 3 1 v1 n (ts.map (Value.int .i64))) (hg : W.grownBy w1 row) :
    ∃ A c, v1 = .slice A ts.length c ∧ IntsAt w1 w1.heap.size A ts ∧ Below w.heap.size w w1 := by
  subst hrow
  obtain ⟨A, c, hv, hI⟩ := ints_of_own hn hown
  exact ⟨A, c, hv, hI, Below.grown hW hg hW.size (fun k hk => by injection hk; omega)⟩

set_option maxHeartbeats 1000000 in
theorem readsR_0 (a b c n p : Int) (w : World) : Calls Tryd.prog 29 #[.agg #[.int .i64 0, .int .i64 a, .int .i64 b, .int .i64 c, .int .i64 n], .int .i64 p] w fun e w' => ∃ A cp, e = .returned (.slice A ([a] : List Int).length cp) ∧ IntsAt w' w'.heap.size A ([a] : List Int) ∧ Below w.heap.size w w' := by
  obtain ⟨i0, hi, hz0, hz1, hz2⟩ := info_parts infoI
  go_enter Tryd.func29, Tryd.ntmps29
  go_wp2_with (
    at_builtin
    refine wpList_append_own _ rfl _ _ _ rfl w.heap.size 3 i0 (.int .i64 0) 1 8 Tryd.underlying56 hi hz0 hz1 hz2 rfl (by decide) _ 0 [] rfl ((ownsRow_made1 w _ 3).alloc _) ⟨w.heap.size + 1 + 1, 0, none⟩ 1 1 [.int .i64 a] rfl ?c1 ?c2 ?c3 ?c4 ?c5 ?c6 ?_
    case c1 => rfl
    case c2 =>
      have := cell_one_new ((w.alloc (.cells #[.int .i64 0, .int .i64 a, .int .i64 b, .int .i64 c, .int .i64 n] 27)).alloc (.cells #[] 3)) (.int .i64 a) 3
      simp only [World.size_alloc] at this
      exact this
    case c3 => simp [Value.oneCell']
    case c4 => unfold maxLen; omega
    case c5 => omega
    case c6 => simp; omega
    intro v1 w1 hown hgrow hnil
    obtain ⟨A1, c1, hv1, hI1, hB1⟩ := reads_after (w := w) (o := .cells #[] 0) (os := []) (ts := [a]) rfl (by repeat (first | exact Below.refl _ _ | with_reducible apply below_alloc)) rfl (by simpa using hown) hgrow
    rw [hv1])
  go_ret
  exact ⟨A1, c1, rfl, hI1, hB1⟩

set_option maxHeartbeats 1000000 in
theorem readsR_1 (a b c n p : Int) (w : World) : Calls Tryd.prog 29 #[.agg #[.int .i64 1, .int .i64 a, .int .i64 b, .int .i64 c, .int .i64 n], .int .i64 p] w fun e w' => ∃ A cp, e = .returned (.slice A ([] : List Int).length cp) ∧ IntsAt w' w'.heap.size A ([] : List Int) ∧ Below w.heap.size w w' := by
  obtain ⟨i0, hi, hz0, hz1, hz2⟩ := info_parts infoI
  go_enter Tryd.func29, Tryd.ntmps29
  go_wp2
  go_ret
  exact ⟨_, _, rfl, fun h => by simp at h, by repeat (first | exact Below.refl _ _ | with_reducible apply below_alloc)⟩

set_option maxHeartbeats 1000000 in
theorem readsR_2 (a b c n p : Int) (w : World) : Calls Tryd.prog 29 #[.agg #[.int .i64 2, .int .i64 a, .int .i64 b, .int .i64 c, .int .i64 n], .int .i64 p] w fun e w' => ∃ A cp, e = .returned (.slice A ([b] : List Int).length cp) ∧ IntsAt w' w'.heap.size A ([b] : List Int) ∧ Below w.heap.size w w' := by
  obtain ⟨i0, hi, hz0, hz1, hz2⟩ := info_parts infoI
  go_enter Tryd.func29, Tryd.ntmps29
  go_wp2_with (
    at_builtin
    refine wpList_append_own _ rfl _ _ _ rfl w.heap.size 3 i0 (.int .i64 0) 1 8 Tryd.underlying56 hi hz0 hz1 hz2 rfl (by decide) _ 0 [] rfl ((ownsRow_made1 w _ 3).alloc _) ⟨w.heap.size + 1 + 1, 0, none⟩ 1 1 [.int .i64 b] rfl ?c1 ?c2 ?c3 ?c4 ?c5 ?c6 ?_
    case c1 => rfl
    case c2 =>
      have := cell_one_new ((w.alloc (.cells #[.int .i64 2, .int .i64 a, .int .i64 b, .int .i64 c, .int .i64 n] 27)).alloc (.cells #[] 3)) (.int .i64 b) 3
      simp only [World.size_alloc] at this
      exact this
    case c3 => simp [Value.oneCell']
    case c4 => unfold maxLen; omega
    case c5 => omega
    case c6 => simp; omega
    intro v1 w1 hown hgrow hnil
    obtain ⟨A1, c1, hv1, hI1, hB1⟩ := reads_after (w := w) (o := .cells #[] 0) (os := []) (ts := [b]) rfl (by repeat (first | exact Below.refl _ _ | with_reducible apply below_alloc)) rfl (by simpa using hown) hgrow
    rw [hv1])
  go_ret
  exact ⟨A1, c1, rfl, hI1, hB1⟩

set_option maxHeartbeats 1000000 in
theorem readsR_3 (a b c n p : Int) (w : World) : Calls Tryd.prog 29 #[.agg #[.int .i64 3, .int .i64 a, .int .i64 b, .int .i64 c, .int .i64 n], .int .i64 p] w fun e w' => ∃ A cp, e = .returned (.slice A ([b, c] : List Int).length cp) ∧ IntsAt w' w'.heap.size A ([b, c] : List Int) ∧ Below w.heap.size w w' := by
  obtain ⟨i0, hi, hz0, hz1, hz2⟩ := info_parts infoI
  go_enter Tryd.func29, Tryd.ntmps29
  go_wp2_with (
    at_builtin
    refine wpList_append_own _ rfl _ _ _ rfl w.heap.size 3 i0 (.int .i64 0) 1 8 Tryd.underlying56 hi hz0 hz1 hz2 rfl (by decide) _ 0 [] rfl ((ownsRow_made1 w _ 3).alloc _) ⟨w.heap.size + 1 + 1, 0, none⟩ 2 2 [.int .i64 b, .int .i64 c] rfl ?c1 ?c2 ?c3 ?c4 ?c5 ?c6 ?_
    case c1 => rfl
    case c2 =>
      have := cell_two_new ((w.alloc (.cells #[.int .i64 3, .int .i64 a, .int .i64 b, .int .i64 c, .int .i64 n] 27)).alloc (.cells #[] 3)) 3 (.int .i64 b) (.int .i64 c)
      simp only [World.size_alloc] at this
      exact this
    case c3 => simp [Value.oneCell']
    case c4 => unfold maxLen; omega
    case c5 => omega
    case c6 => simp; omega
    intro v1 w1 hown hgrow hnil
    obtain ⟨A1, c1, hv1, hI1, hB1⟩ := reads_after (w := w) (o := .cells #[] 0) (os := []) (ts := [b, c]) rfl (by repeat (first | exact Below.refl _ _ | with_reducible apply below_alloc)) rfl (by simpa using hown) hgrow
    rw [hv1])
  go_ret
  exact ⟨A1, c1, rfl, hI1, hB1⟩

set_option maxHeartbeats 1000000 in
theorem readsR_4 (a b c n p : Int) (w : World) : Calls Tryd.prog 29 #[.agg #[.int .i64 4, .int .i64 a, .int .i64 b, .int .i64 c, .int .i64 n], .int .i64 p] w fun e w' => ∃ A cp, e = .returned (.slice A ([b, c] : List Int).length cp) ∧ IntsAt w' w'.heap.size A ([b, c] : List Int) ∧ Below w.heap.size w w' := by
  obtain ⟨i0, hi, hz0, hz1, hz2⟩ := info_parts infoI
  go_enter Tryd.func29, Tryd.ntmps29
  go_wp2_with (
    at_builtin
    refine wpList_append_own _ rfl _ _ _ rfl w.heap.size 3 i0 (.int .i64 0) 1 8 Tryd.underlying56 hi hz0 hz1 hz2 rfl (by decide) _ 0 [] rfl ((ownsRow_made1 w _ 3).alloc _) ⟨w.heap.size + 1 + 1, 0, none⟩ 2 2 [.int .i64 b, .int .i64 c] rfl ?c1 ?c2 ?c3 ?c4 ?c5 ?c6 ?_
    case c1 => rfl
    case c2 =>
      have := cell_two_new ((w.alloc (.cells #[.int .i64 4, .int .i64 a, .int .i64 b, .int .i64 c, .int .i64 n] 27)).alloc (.cells #[] 3)) 3 (.int .i64 b) (.int .i64 c)
      simp only [World.size_alloc] at this
      exact this
    case c3 => simp [Value.oneCell']
    case c4 => unfold maxLen; omega
    case c5 => omega
    case c6 => simp; omega
    intro v1 w1 hown hgrow hnil
    obtain ⟨A1, c1, hv1, hI1, hB1⟩ := reads_after (w := w) (o := .cells #[] 0) (os := []) (ts := [b, c]) rfl (by repeat (first | exact Below.refl _ _ | with_reducible apply below_alloc)) rfl (by simpa using hown) hgrow
    rw [hv1])
  go_ret
  exact ⟨A1, c1, rfl, hI1, hB1⟩

set_option maxHeartbeats 1000000 in
theorem readsR_5 (a b c n p : Int) (w : World) : Calls Tryd.prog 29 #[.agg #[.int .i64 5, .int .i64 a, .int .i64 b, .int .i64 c, .int .i64 n], .int .i64 p] w fun e w' => ∃ A cp, e = .returned (.slice A ([b, c] : List Int).length cp) ∧ IntsAt w' w'.heap.size A ([b, c] : List Int) ∧ Below w.heap.size w w' := by
  obtain ⟨i0, hi, hz0, hz1, hz2⟩ := info_parts infoI
  go_enter Tryd.func29, Tryd.ntmps29
  go_wp2_with (
    at_builtin
    refine wpList_append_own _ rfl _ _ _ rfl w.heap.size 3 i0 (.int .i64 0) 1 8 Tryd.underlying56 hi hz0 hz1 hz2 rfl (by decide) _ 0 [] rfl ((ownsRow_made1 w _ 3).alloc _) ⟨w.heap.size + 1 + 1, 0, none⟩ 2 2 [.int .i64 b, .int .i64 c] rfl ?c1 ?c2 ?c3 ?c4 ?c5 ?c6 ?_
    case c1 => rfl
    case c2 =>
      have := cell_two_new ((w.alloc (.cells #[.int .i64 5, .int .i64 a, .int .i64 b, .int .i64 c, .int .i64 n] 27)).alloc (.cells #[] 3)) 3 (.int .i64 b) (.int .i64 c)
      simp only [World.size_alloc] at this
      exact this
    case c3 => simp [Value.oneCell']
    case c4 => unfold maxLen; omega
    case c5 => omega
    case c6 => simp; omega
    intro v1 w1 hown hgrow hnil
    obtain ⟨A1, c1, hv1, hI1, hB1⟩ := reads_after (w := w) (o := .cells #[] 0) (os := []) (ts := [b, c]) rfl (by repeat (first | exact Below.refl _ _ | with_reducible apply below_alloc)) rfl (by simpa using hown) hgrow
    rw [hv1])
  go_ret
  exact ⟨A1, c1, rfl, hI1, hB1⟩

set_option maxHeartbeats 1000000 in
theorem readsR_6 (a b c n p : Int) (w : World) : Calls Tryd.prog 29 #[.agg #[.int .i64 6, .int .i64 a, .int .i64 b, .int .i64 c, .int .i64 n], .int .i64 p] w fun e w' => ∃ A cp, e = .returned (.slice A ([b, c] : List Int).length cp) ∧ IntsAt w' w'.heap.size A ([b, c] : List Int) ∧ Below w.heap.size w w' := by
  obtain ⟨i0, hi, hz0, hz1, hz2⟩ := info_parts infoI
  go_enter Tryd.func29, Tryd.ntmps29
  go_wp2_with (
    at_builtin
    refine wpList_append_own _ rfl _ _ _ rfl w.heap.size 3 i0 (.int .i64 0) 1 8 Tryd.underlying56 hi hz0 hz1 hz2 rfl (by decide) _ 0 [] rfl ((ownsRow_made1 w _ 3).alloc _) ⟨w.heap.size + 1 + 1, 0, none⟩ 2 2 [.int .i64 b, .int .i64 c] rfl ?c1 ?c2 ?c3 ?c4 ?c5 ?c6 ?_
    case c1 => rfl
    case c2 =>
      have := cell_two_new ((w.alloc (.cells #[.int .i64 6, .int .i64 a, .int .i64 b, .int .i64 c, .int .i64 n] 27)).alloc (.cells #[] 3)) 3 (.int .i64 b) (.int .i64 c)
      simp only [World.size_alloc] at this
      exact this
    case c3 => simp [Value.oneCell']
    case c4 => unfold maxLen; omega
    case c5 => omega
    case c6 => simp; omega
    intro v1 w1 hown hgrow hnil
    obtain ⟨A1, c1, hv1, hI1, hB1⟩ := reads_after (w := w) (o := .cells #[] 0) (os := []) (ts := [b, c]) rfl (by repeat (first | exact Below.refl _ _ | with_reducible apply below_alloc)) rfl (by simpa using hown) hgrow
    rw [hv1])
  go_ret
  exact ⟨A1, c1, rfl, hI1, hB1⟩

set_option maxHeartbeats 1000000 in
theorem readsR_7 (a b c n p : Int) (w : World) : Calls Tryd.prog 29 #[.agg #[.int .i64 7, .int .i64 a, .int .i64 b, .int .i64 c, .int .i64 n], .int .i64 p] w fun e w' => ∃ A cp, e = .returned (.slice A ([b, c] : List Int).length cp) ∧ IntsAt w' w'.heap.size A ([b, c] : List Int) ∧ Below w.heap.size w w' := by
  obtain ⟨i0, hi, hz0, hz1, hz2⟩ := info_parts infoI
  go_enter Tryd.func29, Tryd.ntmps29
  go_wp2_with (
    at_builtin
    refine wpList_append_own _ rfl _ _ _ rfl w.heap.size 3 i0 (.int .i64 0) 1 8 Tryd.underlying56 hi hz0 hz1 hz2 rfl (by decide) _ 0 [] rfl ((ownsRow_made1 w _ 3).alloc _) ⟨w.heap.size + 1 + 1, 0, none⟩ 2 2 [.int .i64 b, .int .i64 c] rfl ?c1 ?c2 ?c3 ?c4 ?c5 ?c6 ?_
    case c1 => rfl
    case c2 =>
      have := cell_two_new ((w.alloc (.cells #[.int .i64 7, .int .i64 a, .int .i64 b, .int .i64 c, .int .i64 n] 27)).alloc (.cells #[] 3)) 3 (.int .i64 b) (.int .i64 c)
      simp only [World.size_alloc] at this
      exact this
    case c3 => simp [Value.oneCell']
    case c4 => unfold maxLen; omega
    case c5 => omega
    case c6 => simp; omega
    intro v1 w1 hown hgrow hnil
    obtain ⟨A1, c1, hv1, hI1, hB1⟩ := reads_after (w := w) (o := .cells #[] 0) (os := []) (ts := [b, c]) rfl (by repeat (first | exact Below.refl _ _ | with_reducible apply below_alloc)) rfl (by simpa using hown) hgrow
    rw [hv1])
  go_ret
  exact ⟨A1, c1, rfl, hI1, hB1⟩

set_option maxHeartbeats 1000000 in
theorem readsR_8 (a b c n p : Int) (w : World) : Calls Tryd.prog 29 #[.agg #[.int .i64 8, .int .i64 a, .int .i64 b, .int .i64 c, .int .i64 n], .int .i64 p] w fun e w' => ∃ A cp, e = .returned (.slice A ([b, c] : List Int).length cp) ∧ IntsAt w' w'.heap.size A ([b, c] : List Int) ∧ Below w.heap.size w w' := by
  obtain ⟨i0, hi, hz0, hz1, hz2⟩ := info_parts infoI
  go_enter Tryd.func29, Tryd.ntmps29
  go_wp2_with (
    at_builtin
    refine wpList_append_own _ rfl _ _ _ rfl w.heap.size 3 i0 (.int .i64 0) 1 8 Tryd.underlying56 hi hz0 hz1 hz2 rfl (by decide) _ 0 [] rfl ((ownsRow_made1 w _ 3).alloc _) ⟨w.heap.size + 1 + 1, 0, none⟩ 2 2 [.int .i64 b, .int .i64 c] rfl ?c1 ?c2 ?c3 ?c4 ?c5 ?c6 ?_
    case c1 => rfl
    case c2 =>
      have := cell_two_new ((w.alloc (.cells #[.int .i64 8, .int .i64 a, .int .i64 b, .int .i64 c, .int .i64 n] 27)).alloc (.cells #[] 3)) 3 (.int .i64 b) (.int .i64 c)
      simp only [World.size_alloc] at this
      exact this
    case c3 => simp [Value.oneCell']
    case c4 => unfold maxLen; omega
    case c5 => omega
    case c6 => simp; omega
    intro v1 w1 hown hgrow hnil
    obtain ⟨A1, c1, hv1, hI1, hB1⟩ := reads_after (w := w) (o := .cells #[] 0) (os := []) (ts := [b, c]) rfl (by repeat (first | exact Below.refl _ _ | with_reducible apply below_alloc)) rfl (by simpa using hown) hgrow
    rw [hv1])
  go_ret
  exact ⟨A1, c1, rfl, hI1, hB1⟩

set_option maxHeartbeats 1000000 in
theorem readsR_9 (a b c n p : Int) (w : World) : Calls Tryd.prog 29 #[.agg #[.int .i64 9, .int .i64 a, .int .i64 b, .int .i64 c, .int .i64 n], .int .i64 p] w fun e w' => ∃ A cp, e = .returned (.slice A ([b, c] : List Int).length cp) ∧ IntsAt w' w'.heap.size A ([b, c] : List Int) ∧ Below w.heap.size w w' := by
  obtain ⟨i0, hi, hz0, hz1, hz2⟩ := info_parts infoI
  go_enter Tryd.func29, Tryd.ntmps29
  go_wp2_with (
    at_builtin
    refine wpList_append_own _ rfl _ _ _ rfl w.heap.size 3 i0 (.int .i64 0) 1 8 Tryd.underlying56 hi hz0 hz1 hz2 rfl (by decide) _ 0 [] rfl ((ownsRow_made1 w _ 3).alloc _) ⟨w.heap.size + 1 + 1, 0, none⟩ 2 2 [.int .i64 b, .int .i64 c] rfl ?c1 ?c2 ?c3 ?c4 ?c5 ?c6 ?_
    case c1 => rfl
    case c2 =>
      have := cell_two_new ((w.alloc (.cells #[.int .i64 9, .int .i64 a, .int .i64 b, .int .i64 c, .int .i64 n] 27)).alloc (.cells #[] 3)) 3 (.int .i64 b) (.int .i64 c)
      simp only [World.size_alloc] at this
      exact this
    case c3 => simp [Value.oneCell']
    case c4 => unfold maxLen; omega
    case c5 => omega
    case c6 => simp; omega
    intro v1 w1 hown hgrow hnil
    obtain ⟨A1, c1, hv1, hI1, hB1⟩ := reads_after (w := w) (o := .cells #[] 0) (os := []) (ts := [b, c]) rfl (by repeat (first | exact Below.refl _ _ | with_reducible apply below_alloc)) rfl (by simpa using hown) hgrow
    rw [hv1])
  go_ret
  exact ⟨A1, c1, rfl, hI1, hB1⟩

set_option maxHeartbeats 1000000 in
theorem readsR_10 (a b c n p : Int) (w : World) : Calls Tryd.prog 29 #[.agg #[.int .i64 10, .int .i64 a, .int .i64 b, .int .i64 c, .int .i64 n], .int .i64 p] w fun e w' => ∃ A cp, e = .returned (.slice A ([b] : List Int).length cp) ∧ IntsAt w' w'.heap.size A ([b] : List Int) ∧ Below w.heap.size w w' := by
  obtain ⟨i0, hi, hz0, hz1, hz2⟩ := info_parts infoI
  go_enter Tryd.func29, Tryd.ntmps29
  go_wp2_with (
    at_builtin
    refine wpList_append_own _ rfl _ _ _ rfl w.heap.size 3 i0 (.int .i64 0) 1 8 Tryd.underlying56 hi hz0 hz1 hz2 rfl (by decide) _ 0 [] rfl ((ownsRow_made1 w _ 3).alloc _) ⟨w.heap.size + 1 + 1, 0, none⟩ 1 1 [.int .i64 b] rfl ?c1 ?c2 ?c3 ?c4 ?c5 ?c6 ?_
    case c1 => rfl
    case c2 =>
      have := cell_one_new ((w.alloc (.cells #[.int .i64 10, .int .i64 a, .int .i64 b, .int .i64 c, .int .i64 n] 27)).alloc (.cells #[] 3)) (.int .i64 b) 3
      simp only [World.size_alloc] at this
      exact this
    case c3 => simp [Value.oneCell']
    case c4 => unfold maxLen; omega
    case c5 => omega
    case c6 => simp; omega
    intro v1 w1 hown hgrow hnil
    obtain ⟨A1, c1, hv1, hI1, hB1⟩ := reads_after (w := w) (o := .cells #[] 0) (os := []) (ts := [b]) rfl (by repeat (first | exact Below.refl _ _ | with_reducible apply below_alloc)) rfl (by simpa using hown) hgrow
    rw [hv1])
  go_ret
  exact ⟨A1, c1, rfl, hI1, hB1⟩

set_option maxHeartbeats 1000000 in
theorem readsR_11 (a b c n p : Int) (w : World) : Calls Tryd.prog 29 #[.agg #[.int .i64 11, .int .i64 a, .int .i64 b, .int .i64 c, .int .i64 n], .int .i64 p] w fun e w' => ∃ A cp, e = .returned (.slice A ([b] : List Int).length cp) ∧ IntsAt w' w'.heap.size A ([b] : List Int) ∧ Below w.heap.size w w' := by
  obtain ⟨i0, hi, hz0, hz1, hz2⟩ := info_parts infoI
  go_enter Tryd.func29, Tryd.ntmps29
  go_wp2_with (
    at_builtin
    refine wpList_append_own _ rfl _ _ _ rfl w.heap.size 3 i0 (.int .i64 0) 1 8 Tryd.underlying56 hi hz0 hz1 hz2 rfl (by decide) _ 0 [] rfl ((ownsRow_made1 w _ 3).alloc _) ⟨w.heap.size + 1 + 1, 0, none⟩ 1 1 [.int .i64 b] rfl ?c1 ?c2 ?c3 ?c4 ?c5 ?c6 ?_
    case c1 => rfl
    case c2 =>
      have := cell_one_new ((w.alloc (.cells #[.int .i64 11, .int .i64 a, .int .i64 b, .int .i64 c, .int .i64 n] 27)).alloc (.cells #[] 3)) (.int .i64 b) 3
      simp only [World.size_alloc] at this
      exact this
    case c3 => simp [Value.oneCell']
    case c4 => unfold maxLen; omega
    case c5 => omega
    case c6 => simp; omega
    intro v1 w1 hown hgrow hnil
    obtain ⟨A1, c1, hv1, hI1, hB1⟩ := reads_after (w := w) (o := .cells #[] 0) (os := []) (ts := [b]) rfl (by repeat (first | exact Below.refl _ _ | with_reducible apply below_alloc)) rfl (by simpa using hown) hgrow
    rw [hv1])
  go_ret
  exact ⟨A1, c1, rfl, hI1, hB1⟩

set_option maxHeartbeats 1000000 in
theorem readsR_12 (a b c n p : Int) (w : World) : Calls Tryd.prog 29 #[.agg #[.int .i64 12, .int .i64 a, .int .i64 b, .int .i64 c, .int .i64 n], .int .i64 p] w fun e w' => ∃ A cp, e = .returned (.slice A ([a, b] : List Int).length cp) ∧ IntsAt w' w'.heap.size A ([a, b] : List Int) ∧ Below w.heap.size w w' := by
  obtain ⟨i0, hi, hz0, hz1, hz2⟩ := info_parts infoI
  go_enter Tryd.func29, Tryd.ntmps29
  go_wp2_with (
    at_builtin
    refine wpList_append_own _ rfl _ _ _ rfl w.heap.size 3 i0 (.int .i64 0) 1 8 Tryd.underlying56 hi hz0 hz1 hz2 rfl (by decide) _ 0 [] rfl ((ownsRow_made1 w _ 3).alloc _) ⟨w.heap.size + 1 + 1, 0, none⟩ 2 2 [.int .i64 a, .int .i64 b] rfl ?c1 ?c2 ?c3 ?c4 ?c5 ?c6 ?_
    case c1 => rfl
    case c2 =>
      have := cell_two_new ((w.alloc (.cells #[.int .i64 12, .int .i64 a, .int .i64 b, .int .i64 c, .int .i64 n] 27)).alloc (.cells #[] 3)) 3 (.int .i64 a) (.int .i64 b)
      simp only [World.size_alloc] at this
      exact this
    case c3 => simp [Value.oneCell']
    case c4 => unfold maxLen; omega
    case c5 => omega
    case c6 => simp; omega
    intro v1 w1 hown hgrow hnil
    obtain ⟨A1, c1, hv1, hI1, hB1⟩ := reads_after (w := w) (o := .cells #[] 0) (os := []) (ts := [a, b]) rfl (by repeat (first | exact Below.refl _ _ | with_reducible apply below_alloc)) rfl (by simpa using hown) hgrow
    rw [hv1])
  go_ret
  exact ⟨A1, c1, rfl, hI1, hB1⟩

set_option maxHeartbeats 1000000 in
theorem readsR_13 (a b c n p : Int) (w : World) : Calls Tryd.prog 29 #[.agg #[.int .i64 13, .int .i64 a, .int .i64 b, .int .i64 c, .int .i64 n], .int .i64 p] w fun e w' => ∃ A cp, e = .returned (.slice A ([a] : List Int).length cp) ∧ IntsAt w' w'.heap.size A ([a] : List Int) ∧ Below w.heap.size w w' := by
  obtain ⟨i0, hi, hz0, hz1, hz2⟩ := info_parts infoI
  go_enter Tryd.func29, Tryd.ntmps29
  go_wp2_with (
    at_builtin
    refine wpList_append_own _ rfl _ _ _ rfl w.heap.size 3 i0 (.int .i64 0) 1 8 Tryd.underlying56 hi hz0 hz1 hz2 rfl (by decide) _ 0 [] rfl ((ownsRow_made1 w _ 3).alloc _) ⟨w.heap.size + 1 + 1, 0, none⟩ 1 1 [.int .i64 a] rfl ?c1 ?c2 ?c3 ?c4 ?c5 ?c6 ?_
    case c1 => rfl
    case c2 =>
      have := cell_one_new ((w.alloc (.cells #[.int .i64 13, .int .i64 a, .int .i64 b, .int .i64 c, .int .i64 n] 27)).alloc (.cells #[] 3)) (.int .i64 a) 3
      simp only [World.size_alloc] at this
      exact this
    case c3 => simp [Value.oneCell']
    case c4 => unfold maxLen; omega
    case c5 => omega
    case c6 => simp; omega
    intro v1 w1 hown hgrow hnil
    obtain ⟨A1, c1, hv1, hI1, hB1⟩ := reads_after (w := w) (o := .cells #[] 0) (os := []) (ts := [a]) rfl (by repeat (first | exact Below.refl _ _ | with_reducible apply below_alloc)) rfl (by simpa using hown) hgrow
    rw [hv1])
  go_ret
  exact ⟨A1, c1, rfl, hI1, hB1⟩

set_option maxHeartbeats 1000000 in
theorem readsR_14 (a b c n p : Int) (w : World) : Calls Tryd.prog 29 #[.agg #[.int .i64 14, .int .i64 a, .int .i64 b, .int .i64 c, .int .i64 n], .int .i64 p] w fun e w' => ∃ A cp, e = .returned (.slice A ([] : List Int).length cp) ∧ IntsAt w' w'.heap.size A ([] : List Int) ∧ Below w.heap.size w w' := by
  obtain ⟨i0, hi, hz0, hz1, hz2⟩ := info_parts infoI
  go_enter Tryd.func29, Tryd.ntmps29
  go_wp2
  go_ret
  exact ⟨_, _, rfl, fun h => by simp at h, by repeat (first | exact Below.refl _ _ | with_reducible apply below_alloc)⟩

set_option maxHeartbeats 1000000 in
theorem readsR_15 (a b c n p : Int) (w : World) : Calls Tryd.prog 29 #[.agg #[.int .i64 15, .int .i64 a, .int .i64 b, .int .i64 c, .int .i64 n], .int .i64 p] w fun e w' => ∃ A cp, e = .returned (.slice A ([a] : List Int).length cp) ∧ IntsAt w' w'.heap.size A ([a] : List Int) ∧ Below w.heap.size w w' := by
  obtain ⟨i0, hi, hz0, hz1, hz2⟩ := info_parts infoI
  go_enter Tryd.func29, Tryd.ntmps29
  go_wp2_with (
    at_builtin
    refine wpList_append_own _ rfl _ _ _ rfl w.heap.size 3 i0 (.int .i64 0) 1 8 Tryd.underlying56 hi hz0 hz1 hz2 rfl (by decide) _ 0 [] rfl ((ownsRow_made1 w _ 3).alloc _) ⟨w.heap.size + 1 + 1, 0, none⟩ 1 1 [.int .i64 a] rfl ?c1 ?c2 ?c3 ?c4 ?c5 ?c6 ?_
    case c1 => rfl
    case c2 =>
      have := cell_one_new ((w.alloc (.cells #[.int .i64 15, .int .i64 a, .int .i64 b, .int .i64 c, .int .i64 n] 27)).alloc (.cells #[] 3)) (.int .i64 a) 3
      simp only [World.size_alloc] at this
      exact this
    case c3 => simp [Value.oneCell']
    case c4 => unfold maxLen; omega
    case c5 => omega
    case c6 => simp; omega
    intro v1 w1 hown hgrow hnil
    obtain ⟨A1, c1, hv1, hI1, hB1⟩ := reads_after (w := w) (o := .cells #[] 0) (os := []) (ts := [a]) rfl (by repeat (first | exact Below.refl _ _ | with_reducible apply below_alloc)) rfl (by simpa using hown) hgrow
    rw [hv1])
  go_ret
  exact ⟨A1, c1, rfl, hI1, hB1⟩

set_option maxHeartbeats 1000000 in
theorem readsR_16 (a b c n p : Int) (w : World) : Calls Tryd.prog 29 #[.agg #[.int .i64 16, .int .i64 a, .int .i64 b, .int .i64 c, .int .i64 n], .int .i64 p] w fun e w' => ∃ A cp, e = .returned (.slice A ([a] : List Int).length cp) ∧ IntsAt w' w'.heap.size A ([a] : List Int) ∧ Below w.heap.size w w' := by
  obtain ⟨i0, hi, hz0, hz1, hz2⟩ := info_parts infoI
  go_enter Tryd.func29, Tryd.ntmps29
  go_wp2_with (
    at_builtin
    refine wpList_append_own _ rfl _ _ _ rfl w.heap.size 3 i0 (.int .i64 0) 1 8 Tryd.underlying56 hi hz0 hz1 hz2 rfl (by decide) _ 0 [] rfl ((ownsRow_made1 w _ 3).alloc _) ⟨w.heap.size + 1 + 1, 0, none⟩ 1 1 [.int .i64 a] rfl ?c1 ?c2 ?c3 ?c4 ?c5 ?c6 ?_
    case c1 => rfl
    case c2 =>
      have := cell_one_new ((w.alloc (.cells #[.int .i64 16, .int .i64 a, .int .i64 b, .int .i64 c, .int .i64 n] 27)).alloc (.cells #[] 3)) (.int .i64 a) 3
      simp only [World.size_alloc] at this
      exact this
    case c3 => simp [Value.oneCell']
    case c4 => unfold maxLen; omega
    case c5 => omega
    case c6 => simp; omega
    intro v1 w1 hown hgrow hnil
    obtain ⟨A1, c1, hv1, hI1, hB1⟩ := reads_after (w := w) (o := .cells #[] 0) (os := []) (ts := [a]) rfl (by repeat (first | exact Below.refl _ _ | with_reducible apply below_alloc)) rfl (by simpa using hown) hgrow
    rw [hv1])
  go_ret
  exact ⟨A1, c1, rfl, hI1, hB1⟩

set_option maxHeartbeats 1000000 in
theorem readsR_17 (a b c n p : Int) (w : World) : Calls Tryd.prog 29 #[.agg #[.int .i64 17, .int .i64 a, .int .i64 b, .int .i64 c, .int .i64 n], .int .i64 p] w fun e w' => ∃ A cp, e = .returned (.slice A ([a, b] : List Int).length cp) ∧ IntsAt w' w'.heap.size A ([a, b] : List Int) ∧ Below w.heap.size w w' := by
  obtain ⟨i0, hi, hz0, hz1, hz2⟩ := info_parts infoI
  go_enter Tryd.func29, Tryd.ntmps29
  go_wp2_with (
    at_builtin
    refine wpList_append_own _ rfl _ _ _ rfl w.heap.size 3 i0 (.int .i64 0) 1 8 Tryd.underlying56 hi hz0 hz1 hz2 rfl (by decide) _ 0 [] rfl ((ownsRow_made1 w _ 3).alloc _) ⟨w.heap.size + 1 + 1, 0, none⟩ 2 2 [.int .i64 a, .int .i64 b] rfl ?c1 ?c2 ?c3 ?c4 ?c5 ?c6 ?_
    case c1 => rfl
    case c2 =>
      have := cell_two_new ((w.alloc (.cells #[.int .i64 17, .int .i64 a, .int .i64 b, .int .i64 c, .int .i64 n] 27)).alloc (.cells #[] 3)) 3 (.int .i64 a) (.int .i64 b)
      simp only [World.size_alloc] at this
      exact this
    case c3 => simp [Value.oneCell']
    case c4 => unfold maxLen; omega
    case c5 => omega
    case c6 => simp; omega
    intro v1 w1 hown hgrow hnil
    obtain ⟨A1, c1, hv1, hI1, hB1⟩ := reads_after (w := w) (o := .cells #[] 0) (os := []) (ts := [a, b]) rfl (by repeat (first | exact Below.refl _ _ | with_reducible apply below_alloc)) rfl (by simpa using hown) hgrow
    rw [hv1])
  go_ret
  exact ⟨A1, c1, rfl, hI1, hB1⟩

set_option maxHeartbeats 1000000 in
theorem readsR_18 (a b c n p : Int) (w : World) : Calls Tryd.prog 29 #[.agg #[.int .i64 18, .int .i64 a, .int .i64 b, .int .i64 c, .int .i64 n], .int .i64 p] w fun e w' => ∃ A cp, e = .returned (.slice A ([a] : List Int).length cp) ∧ IntsAt w' w'.heap.size A ([a] : List Int) ∧ Below w.heap.size w w' := by
  obtain ⟨i0, hi, hz0, hz1, hz2⟩ := info_parts infoI
  go_enter Tryd.func29, Tryd.ntmps29
  go_wp2_with (
    at_builtin
    refine wpList_append_own _ rfl _ _ _ rfl w.heap.size 3 i0 (.int .i64 0) 1 8 Tryd.underlying56 hi hz0 hz1 hz2 rfl (by decide) _ 0 [] rfl ((ownsRow_made1 w _ 3).alloc _) ⟨w.heap.size + 1 + 1, 0, none⟩ 1 1 [.int .i64 a] rfl ?c1 ?c2 ?c3 ?c4 ?c5 ?c6 ?_
    case c1 => rfl
    case c2 =>
      have := cell_one_new ((w.alloc (.cells #[.int .i64 18, .int .i64 a, .int .i64 b, .int .i64 c, .int .i64 n] 27)).alloc (.cells #[] 3)) (.int .i64 a) 3
      simp only [World.size_alloc] at this
      exact this
    case c3 => simp [Value.oneCell']
    case c4 => unfold maxLen; omega
    case c5 => omega
    case c6 => simp; omega
    intro v1 w1 hown hgrow hnil
    obtain ⟨A1, c1, hv1, hI1, hB1⟩ := reads_after (w := w) (o := .cells #[] 0) (os := []) (ts := [a]) rfl (by repeat (first | exact Below.refl _ _ | with_reducible apply below_alloc)) rfl (by simpa using hown) hgrow
    rw [hv1])
  go_ret
  exact ⟨A1, c1, rfl, hI1, hB1⟩

set_option maxHeartbeats 1000000 in
theorem readsR_no (op a b c n p : Int) (o0 : (op == 0) = false) (o2 : (op == 2) = false) (o3 : (op == 3) = false) (o4 : (op == 4) = false) (o5 : (op == 5) = false) (o6 : (op == 6) = false) (o7 : (op == 7) = false) (o8 : (op == 8) = false) (o9 : (op == 9) = false) (o10 : (op == 10) = false) (o11 : (op == 11) = false) (o12 : (op == 12) = false) (o13 : (op == 13) = false) (o15 : (op == 15) = false) (o16 : (op == 16) = false) (o17 : (op == 17) = false) (o18 : (op == 18) = false) (o19 : (op == 19) = false) (w : World) : Calls Tryd.prog 29 #[.agg #[.int .i64 op, .int .i64 a, .int .i64 b, .int .i64 c, .int .i64 n], .int .i64 p] w fun e w' => ∃ A cp, e = .returned (.slice A ([] : List Int).length cp) ∧ IntsAt w' w'.heap.size A ([] : List Int) ∧ Below w.heap.size w w' := by
  obtain ⟨i0, hi, hz0, hz1, hz2⟩ := info_parts infoI
  go_enter Tryd.func29, Tryd.ntmps29
  go_wp2
  go_ret
  exact ⟨_, _, rfl, fun h => by simp at h, by repeat (first | exact Below.refl _ _ | with_reducible apply below_alloc)⟩

structure RMem (w : World) (x : InsD) (v : Value) (L : List Int) (wr : World) : Prop where
  below : Below w.heap.size w wr
  bx : Whl wr w.heap.size 27 #[.int .i64 x.op, .int .i64 x.a, .int .i64 x.b, .int .i64 x.c, .int .i64 x.n]
  own : wr.ownsRow (w.heap.size + 1) 3 1 v L.length (L.map (Value.int .i64))
  size : w.heap.size + 1 ≤ wr.heap.size
theorem RMem.app {w wr W w2 : World} {x : InsD} {v v2 : Value} {L L2 : List Int} {n2 : Nat} {xs : List Value} (h : RMem w x v L wr) (hW : Below wr.heap.size wr W) (hg : W.grownBy w2 v.ownBlock)
    (hn : n2 = L2.length) (hx : xs = L2.map (Value.int .i64)) (hown : w2.ownsRow (w.heap.size + 1) 3 1 v2 n2 xs) : RMem w x v2 L2 w2 := by
  subst hn hx
  have hr : ∀ g, g < w.heap.size + 1 → some g ≠ v.ownBlock := fun g hlt e => by have := (h.own.lt g e.symm).1; omega
  have hB := below_step h.below hW
  exact ⟨hB.grown hg hB.size (fun k hk => by have := (h.own.lt k hk).1; omega), (h.bx.below' hW).grown hg (hr _ (by omega)), hown, Nat.le_trans (Nat.le_trans h.size hW.size) hg.size⟩
theorem RMem.start (w : World) (x : InsD) : RMem w x (.slice (some ⟨w.heap.size + 1, 0, none⟩) 0 0) [] ((w.alloc (.cells #[.int .i64 x.op, .int .i64 x.a, .int .i64 x.b, .int .i64 x.c, .int .i64 x.n] 27)).alloc (.cells #[] 3)) := by
  refine ⟨below_alloc (below_alloc (Below.refl _ _) _) _, (Whl.new _ _ _).alloc _, ?_, by simp⟩
  have := World.ownsRow_made (base := w.heap.size + 1) (e := 3) (size := 1) (w.alloc (.cells #[.int .i64 x.op, .int .i64 x.a, .int .i64 x.b, .int .i64 x.c, .int .i64 x.n] 27)) #[] 0 (by simp) (by decide) rfl
  rwa [World.size_alloc] at this
def callL (b : Int) (k : Nat) : List Int := (List.range k).map (fun (i : Nat) => wrap64 (b + (i : Int)))
theorem callL_succ (b : Int) (k : Nat) : callL b (k + 1) = callL b k ++ [wrap64 (b + (k : Int))] := by simp [callL, List.range_succ]
theorem callL_len (b : Int) (k : Nat) : (callL b k).length = k := by simp [callL]
set_option maxHeartbeats 2000000 in
theorem readsR_19 (a b c n p : Int) (w : World) : Calls Tryd.prog 29 #[.agg #[.int .i64 19, .int .i64 a, .int .i64 b, .int .i64 c, .int .i64 n], .int .i64 p] w fun e w' => ∃ A cp, e = .returned (.slice A (callL b (callN p)).length cp) ∧ IntsAt w' w'.heap.size A (callL b (callN p)) ∧ Below w.heap.size w w' := by
  obtain ⟨i0, hi, hz0, hz1, hz2⟩ := info_parts infoI
  go_enter Tryd.func29, Tryd.ntmps29
  go_wp2
  go_loopw [5, 6] (fun v s wr => ∃ j : Nat, j ≤ callN p ∧ s = .int .i64 j ∧ RMem w ⟨19, a, b, c, n⟩ v (callL b j) wr) (fun _ s _ => callN p - (intOf s).toNat)
  case atStart => exact ⟨0, Nat.zero_le _, rfl, RMem.start w ⟨19, a, b, c, n⟩⟩
  case round =>
    obtain ⟨j, hj, rfl, hM⟩ := hrel
    have d2 : wr.cell? ⟨w.heap.size, 2, none⟩ = some (.int .i64 b) := hM.bx.cell 2
    have hsz := hM.size
    have hlen := callL_len b j
    have hc8 : callN p ≤ 8 := by unfold callN; split <;> (try split) <;> omega
    by_cases hlt : j < callN p
    · have hjp : (j : Int) < p ∧ j < 8 := by unfold callN at hlt; split at hlt <;> (try split at hlt) <;> omega
      obtain ⟨h1, h2⟩ := hjp
      have u1 : decide ((j : Int) < p) = true := by simpa using h1
      have u2 : decide ((j : Int) < 8) = true := by simp; omega
      go_wp2_with (
        at_builtin
        refine wpList_append_own _ rfl _ _ _ rfl (w.heap.size + 1) 3 i0 (.int .i64 0) 1 8 Tryd.underlying56 hi hz0 hz1 hz2 rfl (by decide) _ (callL b j).length ((callL b j).map (Value.int .i64)) rfl (hM.own.alloc _) ⟨wr.heap.size, 0, none⟩ 1 1 [.int .i64 (wrap64 (b + (j : Int)))] rfl ?c1 ?c2 ?c3 ?c4 ?c5 ?c6 ?_
        case c1 => rfl
        case c2 => exact cell_one_new wr (.int .i64 (wrap64 (b + (j : Int)))) 3
        case c3 => simp [Value.oneCell']
        case c4 => unfold maxLen; omega
        case c5 => omega
        case c6 => simp; omega
        intro v1 w1 hown hgrow hnil)
      go_roundw
      case' rel => exact ⟨j + 1, by omega, by go_num, hM.app (L2 := callL b (j + 1)) (below_alloc (Below.refl _ _) _) hgrow (by simp [callL_succ]) (by simp [callL_succ]) hown⟩
      all_goals (try (simp only [intOf]; omega))
    · obtain rfl : j = callN p := by omega
      obtain ⟨A1, c1, hv, hI⟩ := ints_of_own rfl hM.own
      subst hv
      have hjp : p ≤ (callN p : Int) ∨ ((callN p : Int) < p ∧ 8 ≤ callN p) := by unfold callN; split <;> (try split) <;> omega
      have HI := Lib.hid hI; clear hI
      rcases hjp with h1 | ⟨h1, h2⟩
      · have u1 : decide ((callN p : Int) < p) = false := by simpa using h1
        go_wp2
        go_ret
        exact ⟨A1, c1, rfl, HI.out, hM.below⟩
      · have u1 : decide ((callN p : Int) < p) = true := by simpa using h1
        have u2 : decide ((callN p : Int) < 8) = false := by simp; omega
        go_wp2
        go_ret
        exact ⟨A1, c1, rfl, HI.out, hM.below⟩

theorem readsR (op a b c n p : Int) (w : World) : Calls Tryd.prog 29 #[.agg #[.int .i64 op, .int .i64 a, .int .i64 b, .int .i64 c, .int .i64 n], .int .i64 p] w fun e w' => ∃ A cp, e = .returned (.slice A (readsD ⟨op, a, b, c, n⟩ p).length cp) ∧ IntsAt w' w'.heap.size A (readsD ⟨op, a, b, c, n⟩ p) ∧ Below w.heap.size w w' := by
  cases h : known op
  · rw [show readsD ⟨op, a, b, c, n⟩ p = [] from by
      have := known_no h
      simp only [readsD]; rw [if_neg (by omega), h]; rfl]
    exact readsR_no op a b c n p (known_ne h (by decide) (by decide)) (known_ne h (by decide) (by decide)) (known_ne h (by decide) (by decide)) (known_ne h (by decide) (by decide)) (known_ne h (by decide) (by decide)) (known_ne h (by decide) (by decide)) (known_ne h (by decide) (by decide)) (known_ne h (by decide) (by decide)) (known_ne h (by decide) (by decide)) (known_ne h (by decide) (by decide)) (known_ne h (by decide) (by decide)) (known_ne h (by decide) (by decide)) (known_ne h (by decide) (by decide)) (known_ne h (by decide) (by decide)) (known_ne h (by decide) (by decide)) (known_ne h (by decide) (by decide)) (known_ne h (by decide) (by decide)) (known_ne h (by decide) (by decide)) w
  · exact known_cases (P := fun op => Calls Tryd.prog 29 #[.agg #[.int .i64 op, .int .i64 a, .int .i64 b, .int .i64 c, .int .i64 n], .int .i64 p] w fun e w' => ∃ A cp, e = .returned (.slice A (readsD ⟨op, a, b, c, n⟩ p).length cp) ∧ IntsAt w' w'.heap.size A (readsD ⟨op, a, b, c, n⟩ p) ∧ Below w.heap.size w w') h (readsR_0 a b c n p w) (readsR_1 a b c n p w) (readsR_2 a b c n p w) (readsR_3 a b c n p w) (readsR_4 a b c n p w) (readsR_5 a b c n p w) (readsR_6 a b c n p w) (readsR_7 a b c n p w) (readsR_8 a b c n p w) (readsR_9 a b c n p w) (readsR_10 a b c n p w) (readsR_11 a b c n p w) (readsR_12 a b c n p w) (readsR_13 a b c n p w) (readsR_14 a b c n p w) (readsR_15 a b c n p w) (readsR_16 a b c n p w) (readsR_17 a b c n p w) (readsR_18 a b c n p w) (readsR_19 a b c n p w)
end Go.Proofs.YtpmffclepnkedaaDoor
