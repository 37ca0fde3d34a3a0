/-
  Layer 9 (code): the closure of Reads, for every loop body that keeps what KeepI says.
-/
import Derived.Test.YtpmffclepnkedaaDoorKnownIn
namespace Go.Proofs.YtpmffclepnkedaaDoor
open Go.RowKit Go.Shelf
set_option linter.unusedSimpArgs false
set_option linter.unusedVariables false
attribute [local go_sem] Oper.semAt_some


set_option maxRecDepth 100000 in
set_option maxHeartbeats 4000000 in
theorem iter_10 (n : Nat) (hn : 2 ≤ n) (l g g2 n0 n1 N : Nat) (a b c nn : Int) (J Jx : List Int → World → Prop) (hN : 1 ≤ N)
    (hY : ∀ pre x W1, J pre W1 → pre.length < N → YieldAt Fence.wide (n - 1) Tryd.prog l #[.int .i64 x] W1 fun e W' =>
      (e = .returned (.bool true) ∧ J (pre ++ [x]) W' ∧ KeepI n0 n1 W1 W') ∨ (e = .returned (.bool false) ∧ Jx (pre ++ [x]) W'))
    (W : World) (hJ : AbidesFrom W.heap.size J) (hx : Whl W g 27 #[.int .i64 10, .int .i64 a, .int .i64 b, .int .i64 c, .int .i64 nn])
    (hg : g < n0 ∨ n1 ≤ g) (hn0 : n0 ≤ W.heap.size) (hn1 : n1 ≤ W.heap.size) (ht : TabOk W) (h0 : J [] W) :
    CallsIn Fence.wide n Tryd.prog 43 #[.func (.yield l) #[] #[], .pointer (some ⟨g, 0, none⟩), .pointer (some ⟨g2, 0, none⟩)] W fun e W' => (∃ v, e = .returned v) ∧
      ((∃ ys, ys = ([b] : List Int) ∧ J ys W') ∨ (∃ pre, pre <+: ([b] : List Int) ∧ Jx pre W')) := by
  have hk : known 10 = true := rfl
  have h1 : 1 ≤ n := by omega
  have t0 : W.cell? ⟨0, 70, none⟩ = some (.string (strOf [110, 111, 116])) := ht.word 10 (by omega)
  have t1 : W.cell? ⟨0, 71, none⟩ = some (.int .i64 1) := ht.weight 10 (by omega)
  have t2 : W.cell? ⟨0, 72, none⟩ = some (.bool true) := ht.a 10 (by omega)
  have t3 : W.cell? ⟨0, 73, none⟩ = some (.bool true) := ht.b 10 (by omega)
  have t4 : W.cell? ⟨0, 74, none⟩ = some (.bool false) := ht.c 10 (by omega)
  have t5 : W.cell? ⟨0, 75, none⟩ = some (.int .i64 0) := ht.n 10 (by omega)
  have t6 : W.cell? ⟨0, 76, none⟩ = some (.bool true) := ht.wr 10 (by omega)
  have hgW : g < W.heap.size := hx.lt
  have hx0 := hx.alloc (.cells #[.string (strOf [110, 111, 116]), .int .i64 1, .bool true, .bool true, .bool false, .int .i64 0, .bool true] 52)
  have y0 : W.cell? ⟨g, 0, none⟩ = some (.int .i64 10) := hx.cell 0
  have y1 : W.cell? ⟨g, 1, none⟩ = some (.int .i64 a) := hx.cell 1
  have y2 : W.cell? ⟨g, 2, none⟩ = some (.int .i64 b) := hx.cell 2
  have y3 : W.cell? ⟨g, 3, none⟩ = some (.int .i64 c) := hx.cell 3
  have hJ0 : J [] (W.alloc (.cells #[.string (strOf [110, 111, 116]), .int .i64 1, .bool true, .bool true, .bool false, .int .i64 0, .bool true] 52)) := hJ [] W _ none h0 (World.grownBy_alloc _ _ none) (fun r h => by cases h)
  have hw0 : Whl (W.alloc (.cells #[.string (strOf [110, 111, 116]), .int .i64 1, .bool true, .bool true, .bool false, .int .i64 0, .bool true] 52)) W.heap.size 52 #[.string (strOf [110, 111, 116]), .int .i64 1, .bool true, .bool true, .bool false, .int .i64 0, .bool true] := Whl.new _ _ _
  refine callsIn_of_wp Tryd.func43 rfl trivial ?_ rfl
  simp only [Tryd.ntmps43, List.size_toArray, List.length_cons, List.length_nil, Nat.reduceAdd, Nat.reduceSub, Array.replicate_succ, Array.replicate_zero, List.push_toArray, List.append_toArray, List.nil_append, List.cons_append]
  obtain ⟨fn0, tmps0, assign0, body0, hy0, hR0⟩ := hY [] b _ hJ0 (by simp; omega)
  gi_wp2_with (refine ⟨trivial, ?_⟩; gi_at_call 10; refine (known_in Fence.wide _ trivial rfl _ _).mono ?_; rintro e w' ⟨rfl, rfl⟩)
  (try (refine ⟨fun _ _ => trivial, ?_⟩; gi_wp2))
  refine hR0.mono ?_
  rintro e W1 (⟨rfl, hJ1, hk1⟩ | ⟨rfl, hJx1⟩)
  · skip
    have hw1 := (hk1.whl hn1 hw0)
    have hx1 := hk1.whlAt hg hx0
    have x0 : W1.cell? ⟨g, 0, none⟩ = some (.int .i64 10) := hx1.cell 0
    have x1 : W1.cell? ⟨g, 1, none⟩ = some (.int .i64 a) := hx1.cell 1
    have x2 : W1.cell? ⟨g, 2, none⟩ = some (.int .i64 b) := hx1.cell 2
    have x3 : W1.cell? ⟨g, 3, none⟩ = some (.int .i64 c) := hx1.cell 3
    have p2 : W1.cell? ⟨W.heap.size, 2, none⟩ = some (.bool true) := hw1.cell 2
    have p3 : W1.cell? ⟨W.heap.size, 3, none⟩ = some (.bool true) := hw1.cell 3
    have p4 : W1.cell? ⟨W.heap.size, 4, none⟩ = some (.bool false) := hw1.cell 4
    have p6 : W1.cell? ⟨W.heap.size, 6, none⟩ = some (.bool true) := hw1.cell 6
    gi_wp2
    go_end0
    exact ⟨⟨_, rfl⟩, .inl ⟨_, rfl, hJ1⟩⟩
  · gi_wp2
    refine bodyPost_ret (results_none rfl _ _ _) rfl ?_
    exact ⟨⟨_, rfl⟩, .inr ⟨[b], ⟨[], by simp⟩, hJx1⟩⟩

set_option maxRecDepth 100000 in
set_option maxHeartbeats 4000000 in
theorem iter_11 (n : Nat) (hn : 2 ≤ n) (l g g2 n0 n1 N : Nat) (a b c nn : Int) (J Jx : List Int → World → Prop) (hN : 1 ≤ N)
    (hY : ∀ pre x W1, J pre W1 → pre.length < N → YieldAt Fence.wide (n - 1) Tryd.prog l #[.int .i64 x] W1 fun e W' =>
      (e = .returned (.bool true) ∧ J (pre ++ [x]) W' ∧ KeepI n0 n1 W1 W') ∨ (e = .returned (.bool false) ∧ Jx (pre ++ [x]) W'))
    (W : World) (hJ : AbidesFrom W.heap.size J) (hx : Whl W g 27 #[.int .i64 11, .int .i64 a, .int .i64 b, .int .i64 c, .int .i64 nn])
    (hg : g < n0 ∨ n1 ≤ g) (hn0 : n0 ≤ W.heap.size) (hn1 : n1 ≤ W.heap.size) (ht : TabOk W) (h0 : J [] W) :
    CallsIn Fence.wide n Tryd.prog 43 #[.func (.yield l) #[] #[], .pointer (some ⟨g, 0, none⟩), .pointer (some ⟨g2, 0, none⟩)] W fun e W' => (∃ v, e = .returned v) ∧
      ((∃ ys, ys = ([b] : List Int) ∧ J ys W') ∨ (∃ pre, pre <+: ([b] : List Int) ∧ Jx pre W')) := by
  have hk : known 11 = true := rfl
  have h1 : 1 ≤ n := by omega
  have t0 : W.cell? ⟨0, 77, none⟩ = some (.string (strOf [108, 111, 97, 100])) := ht.word 11 (by omega)
  have t1 : W.cell? ⟨0, 78, none⟩ = some (.int .i64 2) := ht.weight 11 (by omega)
  have t2 : W.cell? ⟨0, 79, none⟩ = some (.bool true) := ht.a 11 (by omega)
  have t3 : W.cell? ⟨0, 80, none⟩ = some (.bool true) := ht.b 11 (by omega)
  have t4 : W.cell? ⟨0, 81, none⟩ = some (.bool false) := ht.c 11 (by omega)
  have t5 : W.cell? ⟨0, 82, none⟩ = some (.int .i64 1) := ht.n 11 (by omega)
  have t6 : W.cell? ⟨0, 83, none⟩ = some (.bool true) := ht.wr 11 (by omega)
  have hgW : g < W.heap.size := hx.lt
  have hx0 := hx.alloc (.cells #[.string (strOf [108, 111, 97, 100]), .int .i64 2, .bool true, .bool true, .bool false, .int .i64 1, .bool true] 52)
  have y0 : W.cell? ⟨g, 0, none⟩ = some (.int .i64 11) := hx.cell 0
  have y1 : W.cell? ⟨g, 1, none⟩ = some (.int .i64 a) := hx.cell 1
  have y2 : W.cell? ⟨g, 2, none⟩ = some (.int .i64 b) := hx.cell 2
  have y3 : W.cell? ⟨g, 3, none⟩ = some (.int .i64 c) := hx.cell 3
  have hJ0 : J [] (W.alloc (.cells #[.string (strOf [108, 111, 97, 100]), .int .i64 2, .bool true, .bool true, .bool false, .int .i64 1, .bool true] 52)) := hJ [] W _ none h0 (World.grownBy_alloc _ _ none) (fun r h => by cases h)
  have hw0 : Whl (W.alloc (.cells #[.string (strOf [108, 111, 97, 100]), .int .i64 2, .bool true, .bool true, .bool false, .int .i64 1, .bool true] 52)) W.heap.size 52 #[.string (strOf [108, 111, 97, 100]), .int .i64 2, .bool true, .bool true, .bool false, .int .i64 1, .bool true] := Whl.new _ _ _
  refine callsIn_of_wp Tryd.func43 rfl trivial ?_ rfl
  simp only [Tryd.ntmps43, List.size_toArray, List.length_cons, List.length_nil, Nat.reduceAdd, Nat.reduceSub, Array.replicate_succ, Array.replicate_zero, List.push_toArray, List.append_toArray, List.nil_append, List.cons_append]
  obtain ⟨fn0, tmps0, assign0, body0, hy0, hR0⟩ := hY [] b _ hJ0 (by simp; omega)
  gi_wp2_with (refine ⟨trivial, ?_⟩; gi_at_call 10; refine (known_in Fence.wide _ trivial rfl _ _).mono ?_; rintro e w' ⟨rfl, rfl⟩)
  (try (refine ⟨fun _ _ => trivial, ?_⟩; gi_wp2))
  refine hR0.mono ?_
  rintro e W1 (⟨rfl, hJ1, hk1⟩ | ⟨rfl, hJx1⟩)
  · skip
    have hw1 := (hk1.whl hn1 hw0)
    have hx1 := hk1.whlAt hg hx0
    have x0 : W1.cell? ⟨g, 0, none⟩ = some (.int .i64 11) := hx1.cell 0
    have x1 : W1.cell? ⟨g, 1, none⟩ = some (.int .i64 a) := hx1.cell 1
    have x2 : W1.cell? ⟨g, 2, none⟩ = some (.int .i64 b) := hx1.cell 2
    have x3 : W1.cell? ⟨g, 3, none⟩ = some (.int .i64 c) := hx1.cell 3
    have p2 : W1.cell? ⟨W.heap.size, 2, none⟩ = some (.bool true) := hw1.cell 2
    have p3 : W1.cell? ⟨W.heap.size, 3, none⟩ = some (.bool true) := hw1.cell 3
    have p4 : W1.cell? ⟨W.heap.size, 4, none⟩ = some (.bool false) := hw1.cell 4
    have p6 : W1.cell? ⟨W.heap.size, 6, none⟩ = some (.bool true) := hw1.cell 6
    gi_wp2
    go_end0
    exact ⟨⟨_, rfl⟩, .inl ⟨_, rfl, hJ1⟩⟩
  · gi_wp2
    refine bodyPost_ret (results_none rfl _ _ _) rfl ?_
    exact ⟨⟨_, rfl⟩, .inr ⟨[b], ⟨[], by simp⟩, hJx1⟩⟩

set_option maxRecDepth 100000 in
set_option maxHeartbeats 4000000 in
theorem iter_12 (n : Nat) (hn : 2 ≤ n) (l g g2 n0 n1 N : Nat) (a b c nn : Int) (J Jx : List Int → World → Prop) (hN : 2 ≤ N)
    (hY : ∀ pre x W1, J pre W1 → pre.length < N → YieldAt Fence.wide (n - 1) Tryd.prog l #[.int .i64 x] W1 fun e W' =>
      (e = .returned (.bool true) ∧ J (pre ++ [x]) W' ∧ KeepI n0 n1 W1 W') ∨ (e = .returned (.bool false) ∧ Jx (pre ++ [x]) W'))
    (W : World) (hJ : AbidesFrom W.heap.size J) (hx : Whl W g 27 #[.int .i64 12, .int .i64 a, .int .i64 b, .int .i64 c, .int .i64 nn])
    (hg : g < n0 ∨ n1 ≤ g) (hn0 : n0 ≤ W.heap.size) (hn1 : n1 ≤ W.heap.size) (ht : TabOk W) (h0 : J [] W) :
    CallsIn Fence.wide n Tryd.prog 43 #[.func (.yield l) #[] #[], .pointer (some ⟨g, 0, none⟩), .pointer (some ⟨g2, 0, none⟩)] W fun e W' => (∃ v, e = .returned v) ∧
      ((∃ ys, ys = ([a, b] : List Int) ∧ J ys W') ∨ (∃ pre, pre <+: ([a, b] : List Int) ∧ Jx pre W')) := by
  have hk : known 12 = true := rfl
  have h1 : 1 ≤ n := by omega
  have t0 : W.cell? ⟨0, 84, none⟩ = some (.string (strOf [115, 116, 111, 114, 101])) := ht.word 12 (by omega)
  have t1 : W.cell? ⟨0, 85, none⟩ = some (.int .i64 2) := ht.weight 12 (by omega)
  have t2 : W.cell? ⟨0, 86, none⟩ = some (.bool true) := ht.a 12 (by omega)
  have t3 : W.cell? ⟨0, 87, none⟩ = some (.bool true) := ht.b 12 (by omega)
  have t4 : W.cell? ⟨0, 88, none⟩ = some (.bool false) := ht.c 12 (by omega)
  have t5 : W.cell? ⟨0, 89, none⟩ = some (.int .i64 1) := ht.n 12 (by omega)
  have t6 : W.cell? ⟨0, 90, none⟩ = some (.bool false) := ht.wr 12 (by omega)
  have hgW : g < W.heap.size := hx.lt
  have hx0 := hx.alloc (.cells #[.string (strOf [115, 116, 111, 114, 101]), .int .i64 2, .bool true, .bool true, .bool false, .int .i64 1, .bool false] 52)
  have y0 : W.cell? ⟨g, 0, none⟩ = some (.int .i64 12) := hx.cell 0
  have y1 : W.cell? ⟨g, 1, none⟩ = some (.int .i64 a) := hx.cell 1
  have y2 : W.cell? ⟨g, 2, none⟩ = some (.int .i64 b) := hx.cell 2
  have y3 : W.cell? ⟨g, 3, none⟩ = some (.int .i64 c) := hx.cell 3
  have hJ0 : J [] (W.alloc (.cells #[.string (strOf [115, 116, 111, 114, 101]), .int .i64 2, .bool true, .bool true, .bool false, .int .i64 1, .bool false] 52)) := hJ [] W _ none h0 (World.grownBy_alloc _ _ none) (fun r h => by cases h)
  have hw0 : Whl (W.alloc (.cells #[.string (strOf [115, 116, 111, 114, 101]), .int .i64 2, .bool true, .bool true, .bool false, .int .i64 1, .bool false] 52)) W.heap.size 52 #[.string (strOf [115, 116, 111, 114, 101]), .int .i64 2, .bool true, .bool true, .bool false, .int .i64 1, .bool false] := Whl.new _ _ _
  refine callsIn_of_wp Tryd.func43 rfl trivial ?_ rfl
  simp only [Tryd.ntmps43, List.size_toArray, List.length_cons, List.length_nil, Nat.reduceAdd, Nat.reduceSub, Array.replicate_succ, Array.replicate_zero, List.push_toArray, List.append_toArray, List.nil_append, List.cons_append]
  obtain ⟨fn0, tmps0, assign0, body0, hy0, hR0⟩ := hY [] a _ hJ0 (by simp; omega)
  gi_wp2_with (refine ⟨trivial, ?_⟩; gi_at_call 10; refine (known_in Fence.wide _ trivial rfl _ _).mono ?_; rintro e w' ⟨rfl, rfl⟩)
  refine hR0.mono ?_
  rintro e W1 (⟨rfl, hJ1, hk1⟩ | ⟨rfl, hJx1⟩)
  · skip
    have hw1 := (hk1.whl hn1 hw0)
    have hx1 := hk1.whlAt hg hx0
    have x0 : W1.cell? ⟨g, 0, none⟩ = some (.int .i64 12) := hx1.cell 0
    have x1 : W1.cell? ⟨g, 1, none⟩ = some (.int .i64 a) := hx1.cell 1
    have x2 : W1.cell? ⟨g, 2, none⟩ = some (.int .i64 b) := hx1.cell 2
    have x3 : W1.cell? ⟨g, 3, none⟩ = some (.int .i64 c) := hx1.cell 3
    have p2 : W1.cell? ⟨W.heap.size, 2, none⟩ = some (.bool true) := hw1.cell 2
    have p3 : W1.cell? ⟨W.heap.size, 3, none⟩ = some (.bool true) := hw1.cell 3
    have p4 : W1.cell? ⟨W.heap.size, 4, none⟩ = some (.bool false) := hw1.cell 4
    have p6 : W1.cell? ⟨W.heap.size, 6, none⟩ = some (.bool false) := hw1.cell 6
    obtain ⟨fn1, tmps1, assign1, body1, hy1, hR1⟩ := hY [a] b _ hJ1 (by simp; omega)
    gi_wp2
    refine hR1.mono ?_
    rintro e W2 (⟨rfl, hJ2, hk2⟩ | ⟨rfl, hJx2⟩)
    · clear x0 x1 x2 x3 p2 p3 p4 p6
      have hw2 := (hk2.whl hn1 hw1)
      have hx2 := hk2.whlAt hg hx1
      have x0 : W2.cell? ⟨g, 0, none⟩ = some (.int .i64 12) := hx2.cell 0
      have x1 : W2.cell? ⟨g, 1, none⟩ = some (.int .i64 a) := hx2.cell 1
      have x2 : W2.cell? ⟨g, 2, none⟩ = some (.int .i64 b) := hx2.cell 2
      have x3 : W2.cell? ⟨g, 3, none⟩ = some (.int .i64 c) := hx2.cell 3
      have p2 : W2.cell? ⟨W.heap.size, 2, none⟩ = some (.bool true) := hw2.cell 2
      have p3 : W2.cell? ⟨W.heap.size, 3, none⟩ = some (.bool true) := hw2.cell 3
      have p4 : W2.cell? ⟨W.heap.size, 4, none⟩ = some (.bool false) := hw2.cell 4
      have p6 : W2.cell? ⟨W.heap.size, 6, none⟩ = some (.bool false) := hw2.cell 6
      gi_wp2
      go_end0
      exact ⟨⟨_, rfl⟩, .inl ⟨_, rfl, hJ2⟩⟩
    · gi_wp2
      refine bodyPost_ret (results_none rfl _ _ _) rfl ?_
      exact ⟨⟨_, rfl⟩, .inr ⟨[a, b], ⟨[], by simp⟩, hJx2⟩⟩
  · gi_wp2
    refine bodyPost_ret (results_none rfl _ _ _) rfl ?_
    exact ⟨⟨_, rfl⟩, .inr ⟨[a], ⟨[b], by simp⟩, hJx1⟩⟩

set_option maxRecDepth 100000 in
set_option maxHeartbeats 4000000 in
theorem iter_13 (n : Nat) (hn : 2 ≤ n) (l g g2 n0 n1 N : Nat) (a b c nn : Int) (J Jx : List Int → World → Prop) (hN : 1 ≤ N)
    (hY : ∀ pre x W1, J pre W1 → pre.length < N → YieldAt Fence.wide (n - 1) Tryd.prog l #[.int .i64 x] W1 fun e W' =>
      (e = .returned (.bool true) ∧ J (pre ++ [x]) W' ∧ KeepI n0 n1 W1 W') ∨ (e = .returned (.bool false) ∧ Jx (pre ++ [x]) W'))
    (W : World) (hJ : AbidesFrom W.heap.size J) (hx : Whl W g 27 #[.int .i64 13, .int .i64 a, .int .i64 b, .int .i64 c, .int .i64 nn])
    (hg : g < n0 ∨ n1 ≤ g) (hn0 : n0 ≤ W.heap.size) (hn1 : n1 ≤ W.heap.size) (ht : TabOk W) (h0 : J [] W) :
    CallsIn Fence.wide n Tryd.prog 43 #[.func (.yield l) #[] #[], .pointer (some ⟨g, 0, none⟩), .pointer (some ⟨g2, 0, none⟩)] W fun e W' => (∃ v, e = .returned v) ∧
      ((∃ ys, ys = ([a] : List Int) ∧ J ys W') ∨ (∃ pre, pre <+: ([a] : List Int) ∧ Jx pre W')) := by
  have hk : known 13 = true := rfl
  have h1 : 1 ≤ n := by omega
  have t0 : W.cell? ⟨0, 91, none⟩ = some (.string (strOf [99, 104, 101, 99, 107])) := ht.word 13 (by omega)
  have t1 : W.cell? ⟨0, 92, none⟩ = some (.int .i64 1) := ht.weight 13 (by omega)
  have t2 : W.cell? ⟨0, 93, none⟩ = some (.bool true) := ht.a 13 (by omega)
  have t3 : W.cell? ⟨0, 94, none⟩ = some (.bool false) := ht.b 13 (by omega)
  have t4 : W.cell? ⟨0, 95, none⟩ = some (.bool false) := ht.c 13 (by omega)
  have t5 : W.cell? ⟨0, 96, none⟩ = some (.int .i64 3) := ht.n 13 (by omega)
  have t6 : W.cell? ⟨0, 97, none⟩ = some (.bool false) := ht.wr 13 (by omega)
  have hgW : g < W.heap.size := hx.lt
  have hx0 := hx.alloc (.cells #[.string (strOf [99, 104, 101, 99, 107]), .int .i64 1, .bool true, .bool false, .bool false, .int .i64 3, .bool false] 52)
  have y0 : W.cell? ⟨g, 0, none⟩ = some (.int .i64 13) := hx.cell 0
  have y1 : W.cell? ⟨g, 1, none⟩ = some (.int .i64 a) := hx.cell 1
  have y2 : W.cell? ⟨g, 2, none⟩ = some (.int .i64 b) := hx.cell 2
  have y3 : W.cell? ⟨g, 3, none⟩ = some (.int .i64 c) := hx.cell 3
  have hJ0 : J [] (W.alloc (.cells #[.string (strOf [99, 104, 101, 99, 107]), .int .i64 1, .bool true, .bool false, .bool false, .int .i64 3, .bool false] 52)) := hJ [] W _ none h0 (World.grownBy_alloc _ _ none) (fun r h => by cases h)
  have hw0 : Whl (W.alloc (.cells #[.string (strOf [99, 104, 101, 99, 107]), .int .i64 1, .bool true, .bool false, .bool false, .int .i64 3, .bool false] 52)) W.heap.size 52 #[.string (strOf [99, 104, 101, 99, 107]), .int .i64 1, .bool true, .bool false, .bool false, .int .i64 3, .bool false] := Whl.new _ _ _
  refine callsIn_of_wp Tryd.func43 rfl trivial ?_ rfl
  simp only [Tryd.ntmps43, List.size_toArray, List.length_cons, List.length_nil, Nat.reduceAdd, Nat.reduceSub, Array.replicate_succ, Array.replicate_zero, List.push_toArray, List.append_toArray, List.nil_append, List.cons_append]
  obtain ⟨fn0, tmps0, assign0, body0, hy0, hR0⟩ := hY [] a _ hJ0 (by simp; omega)
  gi_wp2_with (refine ⟨trivial, ?_⟩; gi_at_call 10; refine (known_in Fence.wide _ trivial rfl _ _).mono ?_; rintro e w' ⟨rfl, rfl⟩)
  refine hR0.mono ?_
  rintro e W1 (⟨rfl, hJ1, hk1⟩ | ⟨rfl, hJx1⟩)
  · skip
    have hw1 := (hk1.whl hn1 hw0)
    have hx1 := hk1.whlAt hg hx0
    have x0 : W1.cell? ⟨g, 0, none⟩ = some (.int .i64 13) := hx1.cell 0
    have x1 : W1.cell? ⟨g, 1, none⟩ = some (.int .i64 a) := hx1.cell 1
    have x2 : W1.cell? ⟨g, 2, none⟩ = some (.int .i64 b) := hx1.cell 2
    have x3 : W1.cell? ⟨g, 3, none⟩ = some (.int .i64 c) := hx1.cell 3
    have p2 : W1.cell? ⟨W.heap.size, 2, none⟩ = some (.bool true) := hw1.cell 2
    have p3 : W1.cell? ⟨W.heap.size, 3, none⟩ = some (.bool false) := hw1.cell 3
    have p4 : W1.cell? ⟨W.heap.size, 4, none⟩ = some (.bool false) := hw1.cell 4
    have p6 : W1.cell? ⟨W.heap.size, 6, none⟩ = some (.bool false) := hw1.cell 6
    gi_wp2
    (try (refine ⟨fun _ _ => trivial, ?_⟩; gi_wp2))
    go_end0
    exact ⟨⟨_, rfl⟩, .inl ⟨_, rfl, hJ1⟩⟩
  · gi_wp2
    refine bodyPost_ret (results_none rfl _ _ _) rfl ?_
    exact ⟨⟨_, rfl⟩, .inr ⟨[a], ⟨[], by simp⟩, hJx1⟩⟩

set_option maxRecDepth 100000 in
set_option maxHeartbeats 4000000 in
theorem iter_14 (n : Nat) (hn : 2 ≤ n) (l g g2 n0 n1 N : Nat) (a b c nn : Int) (J Jx : List Int → World → Prop) (hN : 0 ≤ N)
    (hY : ∀ pre x W1, J pre W1 → pre.length < N → YieldAt Fence.wide (n - 1) Tryd.prog l #[.int .i64 x] W1 fun e W' =>
      (e = .returned (.bool true) ∧ J (pre ++ [x]) W' ∧ KeepI n0 n1 W1 W') ∨ (e = .returned (.bool false) ∧ Jx (pre ++ [x]) W'))
    (W : World) (hJ : AbidesFrom W.heap.size J) (hx : Whl W g 27 #[.int .i64 14, .int .i64 a, .int .i64 b, .int .i64 c, .int .i64 nn])
    (hg : g < n0 ∨ n1 ≤ g) (hn0 : n0 ≤ W.heap.size) (hn1 : n1 ≤ W.heap.size) (ht : TabOk W) (h0 : J [] W) :
    CallsIn Fence.wide n Tryd.prog 43 #[.func (.yield l) #[] #[], .pointer (some ⟨g, 0, none⟩), .pointer (some ⟨g2, 0, none⟩)] W fun e W' => (∃ v, e = .returned v) ∧
      ((∃ ys, ys = ([] : List Int) ∧ J ys W') ∨ (∃ pre, pre <+: ([] : List Int) ∧ Jx pre W')) := by
  have hk : known 14 = true := rfl
  have h1 : 1 ≤ n := by omega
  have t0 : W.cell? ⟨0, 98, none⟩ = some (.string (strOf [106, 117, 109, 112])) := ht.word 14 (by omega)
  have t1 : W.cell? ⟨0, 99, none⟩ = some (.int .i64 1) := ht.weight 14 (by omega)
  have t2 : W.cell? ⟨0, 100, none⟩ = some (.bool false) := ht.a 14 (by omega)
  have t3 : W.cell? ⟨0, 101, none⟩ = some (.bool false) := ht.b 14 (by omega)
  have t4 : W.cell? ⟨0, 102, none⟩ = some (.bool false) := ht.c 14 (by omega)
  have t5 : W.cell? ⟨0, 103, none⟩ = some (.int .i64 2) := ht.n 14 (by omega)
  have t6 : W.cell? ⟨0, 104, none⟩ = some (.bool false) := ht.wr 14 (by omega)
  have hgW : g < W.heap.size := hx.lt
  have hx0 := hx.alloc (.cells #[.string (strOf [106, 117, 109, 112]), .int .i64 1, .bool false, .bool false, .bool false, .int .i64 2, .bool false] 52)
  have y0 : W.cell? ⟨g, 0, none⟩ = some (.int .i64 14) := hx.cell 0
  have y1 : W.cell? ⟨g, 1, none⟩ = some (.int .i64 a) := hx.cell 1
  have y2 : W.cell? ⟨g, 2, none⟩ = some (.int .i64 b) := hx.cell 2
  have y3 : W.cell? ⟨g, 3, none⟩ = some (.int .i64 c) := hx.cell 3
  have hJ0 : J [] (W.alloc (.cells #[.string (strOf [106, 117, 109, 112]), .int .i64 1, .bool false, .bool false, .bool false, .int .i64 2, .bool false] 52)) := hJ [] W _ none h0 (World.grownBy_alloc _ _ none) (fun r h => by cases h)
  have hw0 : Whl (W.alloc (.cells #[.string (strOf [106, 117, 109, 112]), .int .i64 1, .bool false, .bool false, .bool false, .int .i64 2, .bool false] 52)) W.heap.size 52 #[.string (strOf [106, 117, 109, 112]), .int .i64 1, .bool false, .bool false, .bool false, .int .i64 2, .bool false] := Whl.new _ _ _
  refine callsIn_of_wp Tryd.func43 rfl trivial ?_ rfl
  simp only [Tryd.ntmps43, List.size_toArray, List.length_cons, List.length_nil, Nat.reduceAdd, Nat.reduceSub, Array.replicate_succ, Array.replicate_zero, List.push_toArray, List.append_toArray, List.nil_append, List.cons_append]
  gi_wp2_with (refine ⟨trivial, ?_⟩; gi_at_call 10; refine (known_in Fence.wide _ trivial rfl _ _).mono ?_; rintro e w' ⟨rfl, rfl⟩)
  (try (refine ⟨fun _ _ => trivial, ?_⟩; gi_wp2))
  (try (refine ⟨fun _ _ => trivial, ?_⟩; gi_wp2))
  go_end0
  exact ⟨⟨_, rfl⟩, .inl ⟨_, rfl, hJ0⟩⟩

set_option maxRecDepth 100000 in
set_option maxHeartbeats 4000000 in
theorem iter_15 (n : Nat) (hn : 2 ≤ n) (l g g2 n0 n1 N : Nat) (a b c nn : Int) (J Jx : List Int → World → Prop) (hN : 1 ≤ N)
    (hY : ∀ pre x W1, J pre W1 → pre.length < N → YieldAt Fence.wide (n - 1) Tryd.prog l #[.int .i64 x] W1 fun e W' =>
      (e = .returned (.bool true) ∧ J (pre ++ [x]) W' ∧ KeepI n0 n1 W1 W') ∨ (e = .returned (.bool false) ∧ Jx (pre ++ [x]) W'))
    (W : World) (hJ : AbidesFrom W.heap.size J) (hx : Whl W g 27 #[.int .i64 15, .int .i64 a, .int .i64 b, .int .i64 c, .int .i64 nn])
    (hg : g < n0 ∨ n1 ≤ g) (hn0 : n0 ≤ W.heap.size) (hn1 : n1 ≤ W.heap.size) (ht : TabOk W) (h0 : J [] W) :
    CallsIn Fence.wide n Tryd.prog 43 #[.func (.yield l) #[] #[], .pointer (some ⟨g, 0, none⟩), .pointer (some ⟨g2, 0, none⟩)] W fun e W' => (∃ v, e = .returned v) ∧
      ((∃ ys, ys = ([a] : List Int) ∧ J ys W') ∨ (∃ pre, pre <+: ([a] : List Int) ∧ Jx pre W')) := by
  have hk : known 15 = true := rfl
  have h1 : 1 ≤ n := by omega
  have t0 : W.cell? ⟨0, 105, none⟩ = some (.string (strOf [105, 102])) := ht.word 15 (by omega)
  have t1 : W.cell? ⟨0, 106, none⟩ = some (.int .i64 1) := ht.weight 15 (by omega)
  have t2 : W.cell? ⟨0, 107, none⟩ = some (.bool true) := ht.a 15 (by omega)
  have t3 : W.cell? ⟨0, 108, none⟩ = some (.bool false) := ht.b 15 (by omega)
  have t4 : W.cell? ⟨0, 109, none⟩ = some (.bool false) := ht.c 15 (by omega)
  have t5 : W.cell? ⟨0, 110, none⟩ = some (.int .i64 2) := ht.n 15 (by omega)
  have t6 : W.cell? ⟨0, 111, none⟩ = some (.bool false) := ht.wr 15 (by omega)
  have hgW : g < W.heap.size := hx.lt
  have hx0 := hx.alloc (.cells #[.string (strOf [105, 102]), .int .i64 1, .bool true, .bool false, .bool false, .int .i64 2, .bool false] 52)
  have y0 : W.cell? ⟨g, 0, none⟩ = some (.int .i64 15) := hx.cell 0
  have y1 : W.cell? ⟨g, 1, none⟩ = some (.int .i64 a) := hx.cell 1
  have y2 : W.cell? ⟨g, 2, none⟩ = some (.int .i64 b) := hx.cell 2
  have y3 : W.cell? ⟨g, 3, none⟩ = some (.int .i64 c) := hx.cell 3
  have hJ0 : J [] (W.alloc (.cells #[.string (strOf [105, 102]), .int .i64 1, .bool true, .bool false, .bool false, .int .i64 2, .bool false] 52)) := hJ [] W _ none h0 (World.grownBy_alloc _ _ none) (fun r h => by cases h)
  have hw0 : Whl (W.alloc (.cells #[.string (strOf [105, 102]), .int .i64 1, .bool true, .bool false, .bool false, .int .i64 2, .bool false] 52)) W.heap.size 52 #[.string (strOf [105, 102]), .int .i64 1, .bool true, .bool false, .bool false, .int .i64 2, .bool false] := Whl.new _ _ _
  refine callsIn_of_wp Tryd.func43 rfl trivial ?_ rfl
  simp only [Tryd.ntmps43, List.size_toArray, List.length_cons, List.length_nil, Nat.reduceAdd, Nat.reduceSub, Array.replicate_succ, Array.replicate_zero, List.push_toArray, List.append_toArray, List.nil_append, List.cons_append]
  obtain ⟨fn0, tmps0, assign0, body0, hy0, hR0⟩ := hY [] a _ hJ0 (by simp; omega)
  gi_wp2_with (refine ⟨trivial, ?_⟩; gi_at_call 10; refine (known_in Fence.wide _ trivial rfl _ _).mono ?_; rintro e w' ⟨rfl, rfl⟩)
  refine hR0.mono ?_
  rintro e W1 (⟨rfl, hJ1, hk1⟩ | ⟨rfl, hJx1⟩)
  · skip
    have hw1 := (hk1.whl hn1 hw0)
    have hx1 := hk1.whlAt hg hx0
    have x0 : W1.cell? ⟨g, 0, none⟩ = some (.int .i64 15) := hx1.cell 0
    have x1 : W1.cell? ⟨g, 1, none⟩ = some (.int .i64 a) := hx1.cell 1
    have x2 : W1.cell? ⟨g, 2, none⟩ = some (.int .i64 b) := hx1.cell 2
    have x3 : W1.cell? ⟨g, 3, none⟩ = some (.int .i64 c) := hx1.cell 3
    have p2 : W1.cell? ⟨W.heap.size, 2, none⟩ = some (.bool true) := hw1.cell 2
    have p3 : W1.cell? ⟨W.heap.size, 3, none⟩ = some (.bool false) := hw1.cell 3
    have p4 : W1.cell? ⟨W.heap.size, 4, none⟩ = some (.bool false) := hw1.cell 4
    have p6 : W1.cell? ⟨W.heap.size, 6, none⟩ = some (.bool false) := hw1.cell 6
    gi_wp2
    (try (refine ⟨fun _ _ => trivial, ?_⟩; gi_wp2))
    go_end0
    exact ⟨⟨_, rfl⟩, .inl ⟨_, rfl, hJ1⟩⟩
  · gi_wp2
    refine bodyPost_ret (results_none rfl _ _ _) rfl ?_
    exact ⟨⟨_, rfl⟩, .inr ⟨[a], ⟨[], by simp⟩, hJx1⟩⟩

set_option maxRecDepth 100000 in
set_option maxHeartbeats 4000000 in
theorem iter_16 (n : Nat) (hn : 2 ≤ n) (l g g2 n0 n1 N : Nat) (a b c nn : Int) (J Jx : List Int → World → Prop) (hN : 1 ≤ N)
    (hY : ∀ pre x W1, J pre W1 → pre.length < N → YieldAt Fence.wide (n - 1) Tryd.prog l #[.int .i64 x] W1 fun e W' =>
      (e = .returned (.bool true) ∧ J (pre ++ [x]) W' ∧ KeepI n0 n1 W1 W') ∨ (e = .returned (.bool false) ∧ Jx (pre ++ [x]) W'))
    (W : World) (hJ : AbidesFrom W.heap.size J) (hx : Whl W g 27 #[.int .i64 16, .int .i64 a, .int .i64 b, .int .i64 c, .int .i64 nn])
    (hg : g < n0 ∨ n1 ≤ g) (hn0 : n0 ≤ W.heap.size) (hn1 : n1 ≤ W.heap.size) (ht : TabOk W) (h0 : J [] W) :
    CallsIn Fence.wide n Tryd.prog 43 #[.func (.yield l) #[] #[], .pointer (some ⟨g, 0, none⟩), .pointer (some ⟨g2, 0, none⟩)] W fun e W' => (∃ v, e = .returned v) ∧
      ((∃ ys, ys = ([a] : List Int) ∧ J ys W') ∨ (∃ pre, pre <+: ([a] : List Int) ∧ Jx pre W')) := by
  have hk : known 16 = true := rfl
  have h1 : 1 ≤ n := by omega
  have t0 : W.cell? ⟨0, 112, none⟩ = some (.string (strOf [117, 110, 108, 101, 115, 115])) := ht.word 16 (by omega)
  have t1 : W.cell? ⟨0, 113, none⟩ = some (.int .i64 1) := ht.weight 16 (by omega)
  have t2 : W.cell? ⟨0, 114, none⟩ = some (.bool true) := ht.a 16 (by omega)
  have t3 : W.cell? ⟨0, 115, none⟩ = some (.bool false) := ht.b 16 (by omega)
  have t4 : W.cell? ⟨0, 116, none⟩ = some (.bool false) := ht.c 16 (by omega)
  have t5 : W.cell? ⟨0, 117, none⟩ = some (.int .i64 2) := ht.n 16 (by omega)
  have t6 : W.cell? ⟨0, 118, none⟩ = some (.bool false) := ht.wr 16 (by omega)
  have hgW : g < W.heap.size := hx.lt
  have hx0 := hx.alloc (.cells #[.string (strOf [117, 110, 108, 101, 115, 115]), .int .i64 1, .bool true, .bool false, .bool false, .int .i64 2, .bool false] 52)
  have y0 : W.cell? ⟨g, 0, none⟩ = some (.int .i64 16) := hx.cell 0
  have y1 : W.cell? ⟨g, 1, none⟩ = some (.int .i64 a) := hx.cell 1
  have y2 : W.cell? ⟨g, 2, none⟩ = some (.int .i64 b) := hx.cell 2
  have y3 : W.cell? ⟨g, 3, none⟩ = some (.int .i64 c) := hx.cell 3
  have hJ0 : J [] (W.alloc (.cells #[.string (strOf [117, 110, 108, 101, 115, 115]), .int .i64 1, .bool true, .bool false, .bool false, .int .i64 2, .bool false] 52)) := hJ [] W _ none h0 (World.grownBy_alloc _ _ none) (fun r h => by cases h)
  have hw0 : Whl (W.alloc (.cells #[.string (strOf [117, 110, 108, 101, 115, 115]), .int .i64 1, .bool true, .bool false, .bool false, .int .i64 2, .bool false] 52)) W.heap.size 52 #[.string (strOf [117, 110, 108, 101, 115, 115]), .int .i64 1, .bool true, .bool false, .bool false, .int .i64 2, .bool false] := Whl.new _ _ _
  refine callsIn_of_wp Tryd.func43 rfl trivial ?_ rfl
  simp only [Tryd.ntmps43, List.size_toArray, List.length_cons, List.length_nil, Nat.reduceAdd, Nat.reduceSub, Array.replicate_succ, Array.replicate_zero, List.push_toArray, List.append_toArray, List.nil_append, List.cons_append]
  obtain ⟨fn0, tmps0, assign0, body0, hy0, hR0⟩ := hY [] a _ hJ0 (by simp; omega)
  gi_wp2_with (refine ⟨trivial, ?_⟩; gi_at_call 10; refine (known_in Fence.wide _ trivial rfl _ _).mono ?_; rintro e w' ⟨rfl, rfl⟩)
  refine hR0.mono ?_
  rintro e W1 (⟨rfl, hJ1, hk1⟩ | ⟨rfl, hJx1⟩)
  · skip
    have hw1 := (hk1.whl hn1 hw0)
    have hx1 := hk1.whlAt hg hx0
    have x0 : W1.cell? ⟨g, 0, none⟩ = some (.int .i64 16) := hx1.cell 0
    have x1 : W1.cell? ⟨g, 1, none⟩ = some (.int .i64 a) := hx1.cell 1
    have x2 : W1.cell? ⟨g, 2, none⟩ = some (.int .i64 b) := hx1.cell 2
    have x3 : W1.cell? ⟨g, 3, none⟩ = some (.int .i64 c) := hx1.cell 3
    have p2 : W1.cell? ⟨W.heap.size, 2, none⟩ = some (.bool true) := hw1.cell 2
    have p3 : W1.cell? ⟨W.heap.size, 3, none⟩ = some (.bool false) := hw1.cell 3
    have p4 : W1.cell? ⟨W.heap.size, 4, none⟩ = some (.bool false) := hw1.cell 4
    have p6 : W1.cell? ⟨W.heap.size, 6, none⟩ = some (.bool false) := hw1.cell 6
    gi_wp2
    (try (refine ⟨fun _ _ => trivial, ?_⟩; gi_wp2))
    go_end0
    exact ⟨⟨_, rfl⟩, .inl ⟨_, rfl, hJ1⟩⟩
  · gi_wp2
    refine bodyPost_ret (results_none rfl _ _ _) rfl ?_
    exact ⟨⟨_, rfl⟩, .inr ⟨[a], ⟨[], by simp⟩, hJx1⟩⟩

set_option maxRecDepth 100000 in
set_option maxHeartbeats 4000000 in
theorem iter_17 (n : Nat) (hn : 2 ≤ n) (l g g2 n0 n1 N : Nat) (a b c nn : Int) (J Jx : List Int → World → Prop) (hN : 2 ≤ N)
    (hY : ∀ pre x W1, J pre W1 → pre.length < N → YieldAt Fence.wide (n - 1) Tryd.prog l #[.int .i64 x] W1 fun e W' =>
      (e = .returned (.bool true) ∧ J (pre ++ [x]) W' ∧ KeepI n0 n1 W1 W') ∨ (e = .returned (.bool false) ∧ Jx (pre ++ [x]) W'))
    (W : World) (hJ : AbidesFrom W.heap.size J) (hx : Whl W g 27 #[.int .i64 17, .int .i64 a, .int .i64 b, .int .i64 c, .int .i64 nn])
    (hg : g < n0 ∨ n1 ≤ g) (hn0 : n0 ≤ W.heap.size) (hn1 : n1 ≤ W.heap.size) (ht : TabOk W) (h0 : J [] W) :
    CallsIn Fence.wide n Tryd.prog 43 #[.func (.yield l) #[] #[], .pointer (some ⟨g, 0, none⟩), .pointer (some ⟨g2, 0, none⟩)] W fun e W' => (∃ v, e = .returned v) ∧
      ((∃ ys, ys = ([a, b] : List Int) ∧ J ys W') ∨ (∃ pre, pre <+: ([a, b] : List Int) ∧ Jx pre W')) := by
  have hk : known 17 = true := rfl
  have h1 : 1 ≤ n := by omega
  have t0 : W.cell? ⟨0, 119, none⟩ = some (.string (strOf [99, 111, 117, 110, 116])) := ht.word 17 (by omega)
  have t1 : W.cell? ⟨0, 120, none⟩ = some (.int .i64 1) := ht.weight 17 (by omega)
  have t2 : W.cell? ⟨0, 121, none⟩ = some (.bool true) := ht.a 17 (by omega)
  have t3 : W.cell? ⟨0, 122, none⟩ = some (.bool true) := ht.b 17 (by omega)
  have t4 : W.cell? ⟨0, 123, none⟩ = some (.bool false) := ht.c 17 (by omega)
  have t5 : W.cell? ⟨0, 124, none⟩ = some (.int .i64 2) := ht.n 17 (by omega)
  have t6 : W.cell? ⟨0, 125, none⟩ = some (.bool false) := ht.wr 17 (by omega)
  have hgW : g < W.heap.size := hx.lt
  have hx0 := hx.alloc (.cells #[.string (strOf [99, 111, 117, 110, 116]), .int .i64 1, .bool true, .bool true, .bool false, .int .i64 2, .bool false] 52)
  have y0 : W.cell? ⟨g, 0, none⟩ = some (.int .i64 17) := hx.cell 0
  have y1 : W.cell? ⟨g, 1, none⟩ = some (.int .i64 a) := hx.cell 1
  have y2 : W.cell? ⟨g, 2, none⟩ = some (.int .i64 b) := hx.cell 2
  have y3 : W.cell? ⟨g, 3, none⟩ = some (.int .i64 c) := hx.cell 3
  have hJ0 : J [] (W.alloc (.cells #[.string (strOf [99, 111, 117, 110, 116]), .int .i64 1, .bool true, .bool true, .bool false, .int .i64 2, .bool false] 52)) := hJ [] W _ none h0 (World.grownBy_alloc _ _ none) (fun r h => by cases h)
  have hw0 : Whl (W.alloc (.cells #[.string (strOf [99, 111, 117, 110, 116]), .int .i64 1, .bool true, .bool true, .bool false, .int .i64 2, .bool false] 52)) W.heap.size 52 #[.string (strOf [99, 111, 117, 110, 116]), .int .i64 1, .bool true, .bool true, .bool false, .int .i64 2, .bool false] := Whl.new _ _ _
  refine callsIn_of_wp Tryd.func43 rfl trivial ?_ rfl
  simp only [Tryd.ntmps43, List.size_toArray, List.length_cons, List.length_nil, Nat.reduceAdd, Nat.reduceSub, Array.replicate_succ, Array.replicate_zero, List.push_toArray, List.append_toArray, List.nil_append, List.cons_append]
  obtain ⟨fn0, tmps0, assign0, body0, hy0, hR0⟩ := hY [] a _ hJ0 (by simp; omega)
  gi_wp2_with (refine ⟨trivial, ?_⟩; gi_at_call 10; refine (known_in Fence.wide _ trivial rfl _ _).mono ?_; rintro e w' ⟨rfl, rfl⟩)
  refine hR0.mono ?_
  rintro e W1 (⟨rfl, hJ1, hk1⟩ | ⟨rfl, hJx1⟩)
  · skip
    have hw1 := (hk1.whl hn1 hw0)
    have hx1 := hk1.whlAt hg hx0
    have x0 : W1.cell? ⟨g, 0, none⟩ = some (.int .i64 17) := hx1.cell 0
    have x1 : W1.cell? ⟨g, 1, none⟩ = some (.int .i64 a) := hx1.cell 1
    have x2 : W1.cell? ⟨g, 2, none⟩ = some (.int .i64 b) := hx1.cell 2
    have x3 : W1.cell? ⟨g, 3, none⟩ = some (.int .i64 c) := hx1.cell 3
    have p2 : W1.cell? ⟨W.heap.size, 2, none⟩ = some (.bool true) := hw1.cell 2
    have p3 : W1.cell? ⟨W.heap.size, 3, none⟩ = some (.bool true) := hw1.cell 3
    have p4 : W1.cell? ⟨W.heap.size, 4, none⟩ = some (.bool false) := hw1.cell 4
    have p6 : W1.cell? ⟨W.heap.size, 6, none⟩ = some (.bool false) := hw1.cell 6
    obtain ⟨fn1, tmps1, assign1, body1, hy1, hR1⟩ := hY [a] b _ hJ1 (by simp; omega)
    gi_wp2
    refine hR1.mono ?_
    rintro e W2 (⟨rfl, hJ2, hk2⟩ | ⟨rfl, hJx2⟩)
    · clear x0 x1 x2 x3 p2 p3 p4 p6
      have hw2 := (hk2.whl hn1 hw1)
      have hx2 := hk2.whlAt hg hx1
      have x0 : W2.cell? ⟨g, 0, none⟩ = some (.int .i64 17) := hx2.cell 0
      have x1 : W2.cell? ⟨g, 1, none⟩ = some (.int .i64 a) := hx2.cell 1
      have x2 : W2.cell? ⟨g, 2, none⟩ = some (.int .i64 b) := hx2.cell 2
      have x3 : W2.cell? ⟨g, 3, none⟩ = some (.int .i64 c) := hx2.cell 3
      have p2 : W2.cell? ⟨W.heap.size, 2, none⟩ = some (.bool true) := hw2.cell 2
      have p3 : W2.cell? ⟨W.heap.size, 3, none⟩ = some (.bool true) := hw2.cell 3
      have p4 : W2.cell? ⟨W.heap.size, 4, none⟩ = some (.bool false) := hw2.cell 4
      have p6 : W2.cell? ⟨W.heap.size, 6, none⟩ = some (.bool false) := hw2.cell 6
      gi_wp2
      go_end0
      exact ⟨⟨_, rfl⟩, .inl ⟨_, rfl, hJ2⟩⟩
    · gi_wp2
      refine bodyPost_ret (results_none rfl _ _ _) rfl ?_
      exact ⟨⟨_, rfl⟩, .inr ⟨[a, b], ⟨[], by simp⟩, hJx2⟩⟩
  · gi_wp2
    refine bodyPost_ret (results_none rfl _ _ _) rfl ?_
    exact ⟨⟨_, rfl⟩, .inr ⟨[a], ⟨[b], by simp⟩, hJx1⟩⟩

set_option maxRecDepth 100000 in
set_option maxHeartbeats 4000000 in
theorem iter_18 (n : Nat) (hn : 2 ≤ n) (l g g2 n0 n1 N : Nat) (a b c nn : Int) (J Jx : List Int → World → Prop) (hN : 1 ≤ N)
    (hY : ∀ pre x W1, J pre W1 → pre.length < N → YieldAt Fence.wide (n - 1) Tryd.prog l #[.int .i64 x] W1 fun e W' =>
      (e = .returned (.bool true) ∧ J (pre ++ [x]) W' ∧ KeepI n0 n1 W1 W') ∨ (e = .returned (.bool false) ∧ Jx (pre ++ [x]) W'))
    (W : World) (hJ : AbidesFrom W.heap.size J) (hx : Whl W g 27 #[.int .i64 18, .int .i64 a, .int .i64 b, .int .i64 c, .int .i64 nn])
    (hg : g < n0 ∨ n1 ≤ g) (hn0 : n0 ≤ W.heap.size) (hn1 : n1 ≤ W.heap.size) (ht : TabOk W) (h0 : J [] W) :
    CallsIn Fence.wide n Tryd.prog 43 #[.func (.yield l) #[] #[], .pointer (some ⟨g, 0, none⟩), .pointer (some ⟨g2, 0, none⟩)] W fun e W' => (∃ v, e = .returned v) ∧
      ((∃ ys, ys = ([a] : List Int) ∧ J ys W') ∨ (∃ pre, pre <+: ([a] : List Int) ∧ Jx pre W')) := by
  have hk : known 18 = true := rfl
  have h1 : 1 ≤ n := by omega
  have t0 : W.cell? ⟨0, 126, none⟩ = some (.string (strOf [115, 116, 101, 112])) := ht.word 18 (by omega)
  have t1 : W.cell? ⟨0, 127, none⟩ = some (.int .i64 1) := ht.weight 18 (by omega)
  have t2 : W.cell? ⟨0, 128, none⟩ = some (.bool true) := ht.a 18 (by omega)
  have t3 : W.cell? ⟨0, 129, none⟩ = some (.bool false) := ht.b 18 (by omega)
  have t4 : W.cell? ⟨0, 130, none⟩ = some (.bool false) := ht.c 18 (by omega)
  have t5 : W.cell? ⟨0, 131, none⟩ = some (.int .i64 2) := ht.n 18 (by omega)
  have t6 : W.cell? ⟨0, 132, none⟩ = some (.bool true) := ht.wr 18 (by omega)
  have hgW : g < W.heap.size := hx.lt
  have hx0 := hx.alloc (.cells #[.string (strOf [115, 116, 101, 112]), .int .i64 1, .bool true, .bool false, .bool false, .int .i64 2, .bool true] 52)
  have y0 : W.cell? ⟨g, 0, none⟩ = some (.int .i64 18) := hx.cell 0
  have y1 : W.cell? ⟨g, 1, none⟩ = some (.int .i64 a) := hx.cell 1
  have y2 : W.cell? ⟨g, 2, none⟩ = some (.int .i64 b) := hx.cell 2
  have y3 : W.cell? ⟨g, 3, none⟩ = some (.int .i64 c) := hx.cell 3
  have hJ0 : J [] (W.alloc (.cells #[.string (strOf [115, 116, 101, 112]), .int .i64 1, .bool true, .bool false, .bool false, .int .i64 2, .bool true] 52)) := hJ [] W _ none h0 (World.grownBy_alloc _ _ none) (fun r h => by cases h)
  have hw0 : Whl (W.alloc (.cells #[.string (strOf [115, 116, 101, 112]), .int .i64 1, .bool true, .bool false, .bool false, .int .i64 2, .bool true] 52)) W.heap.size 52 #[.string (strOf [115, 116, 101, 112]), .int .i64 1, .bool true, .bool false, .bool false, .int .i64 2, .bool true] := Whl.new _ _ _
  refine callsIn_of_wp Tryd.func43 rfl trivial ?_ rfl
  simp only [Tryd.ntmps43, List.size_toArray, List.length_cons, List.length_nil, Nat.reduceAdd, Nat.reduceSub, Array.replicate_succ, Array.replicate_zero, List.push_toArray, List.append_toArray, List.nil_append, List.cons_append]
  obtain ⟨fn0, tmps0, assign0, body0, hy0, hR0⟩ := hY [] a _ hJ0 (by simp; omega)
  gi_wp2_with (refine ⟨trivial, ?_⟩; gi_at_call 10; refine (known_in Fence.wide _ trivial rfl _ _).mono ?_; rintro e w' ⟨rfl, rfl⟩)
  refine hR0.mono ?_
  rintro e W1 (⟨rfl, hJ1, hk1⟩ | ⟨rfl, hJx1⟩)
  · skip
    have hw1 := (hk1.whl hn1 hw0)
    have hx1 := hk1.whlAt hg hx0
    have x0 : W1.cell? ⟨g, 0, none⟩ = some (.int .i64 18) := hx1.cell 0
    have x1 : W1.cell? ⟨g, 1, none⟩ = some (.int .i64 a) := hx1.cell 1
    have x2 : W1.cell? ⟨g, 2, none⟩ = some (.int .i64 b) := hx1.cell 2
    have x3 : W1.cell? ⟨g, 3, none⟩ = some (.int .i64 c) := hx1.cell 3
    have p2 : W1.cell? ⟨W.heap.size, 2, none⟩ = some (.bool true) := hw1.cell 2
    have p3 : W1.cell? ⟨W.heap.size, 3, none⟩ = some (.bool false) := hw1.cell 3
    have p4 : W1.cell? ⟨W.heap.size, 4, none⟩ = some (.bool false) := hw1.cell 4
    have p6 : W1.cell? ⟨W.heap.size, 6, none⟩ = some (.bool true) := hw1.cell 6
    gi_wp2
    (try (refine ⟨fun _ _ => trivial, ?_⟩; gi_wp2))
    go_end0
    exact ⟨⟨_, rfl⟩, .inl ⟨_, rfl, hJ1⟩⟩
  · gi_wp2
    refine bodyPost_ret (results_none rfl _ _ _) rfl ?_
    exact ⟨⟨_, rfl⟩, .inr ⟨[a], ⟨[], by simp⟩, hJx1⟩⟩
end Go.Proofs.YtpmffclepnkedaaDoor
