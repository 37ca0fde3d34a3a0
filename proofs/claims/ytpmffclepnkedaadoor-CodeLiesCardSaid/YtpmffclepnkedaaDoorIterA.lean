/-
  Layer 9 (code): the closure of Reads, for every loop body that keeps what KeepI says.
-/
import Derived.Test.YtpmffclepnkedaaDoorKnownIn
namespace Go.Proofs.YtpmffclepnkedaaDoor
open Go.RowKit Go.Shelf
set_option linter.unusedSimpArgs false
set_option linter.unusedVariables false
attribute [local go_sem] Oper.semAt_some


set_option maxRecDepth 100000 in
set_option maxHeartbeats 4000000 in
theorem iter_0 (n : Nat) (hn : 2 ≤ n) (l g g2 n0 n1 N : Nat) (a b c nn : Int) (J Jx : List Int → World → Prop) (hN : 1 ≤ N)
    (hY : ∀ pre x W1, J pre W1 → pre.length < N → YieldAt Fence.wide (n - 1) Tryd.prog l #[.int .i64 x] W1 fun e W' =>
      (e = .returned (.bool true) ∧ J (pre ++ [x]) W' ∧ KeepI n0 n1 W1 W') ∨ (e = .returned (.bool false) ∧ Jx (pre ++ [x]) W'))
    (W : World) (hJ : AbidesFrom W.heap.size J) (hx : Whl W g 27 #[.int .i64 0, .int .i64 a, .int .i64 b, .int .i64 c, .int .i64 nn])
    (hg : g < n0 ∨ n1 ≤ g) (hn0 : n0 ≤ W.heap.size) (hn1 : n1 ≤ W.heap.size) (ht : TabOk W) (h0 : J [] W) :
    CallsIn Fence.wide n Tryd.prog 43 #[.func (.yield l) #[] #[], .pointer (some ⟨g, 0, none⟩), .pointer (some ⟨g2, 0, none⟩)] W fun e W' => (∃ v, e = .returned v) ∧
      ((∃ ys, ys = ([a] : List Int) ∧ J ys W') ∨ (∃ pre, pre <+: ([a] : List Int) ∧ Jx pre W')) := by
  have hk : known 0 = true := rfl
  have h1 : 1 ≤ n := by omega
  have t0 : W.cell? ⟨0, 0, none⟩ = some (.string (strOf [114, 101, 116])) := ht.word 0 (by omega)
  have t1 : W.cell? ⟨0, 1, none⟩ = some (.int .i64 1) := ht.weight 0 (by omega)
  have t2 : W.cell? ⟨0, 2, none⟩ = some (.bool true) := ht.a 0 (by omega)
  have t3 : W.cell? ⟨0, 3, none⟩ = some (.bool false) := ht.b 0 (by omega)
  have t4 : W.cell? ⟨0, 4, none⟩ = some (.bool false) := ht.c 0 (by omega)
  have t5 : W.cell? ⟨0, 5, none⟩ = some (.int .i64 0) := ht.n 0 (by omega)
  have t6 : W.cell? ⟨0, 6, none⟩ = some (.bool false) := ht.wr 0 (by omega)
  have hgW : g < W.heap.size := hx.lt
  have hx0 := hx.alloc (.cells #[.string (strOf [114, 101, 116]), .int .i64 1, .bool true, .bool false, .bool false, .int .i64 0, .bool false] 52)
  have y0 : W.cell? ⟨g, 0, none⟩ = some (.int .i64 0) := hx.cell 0
  have y1 : W.cell? ⟨g, 1, none⟩ = some (.int .i64 a) := hx.cell 1
  have y2 : W.cell? ⟨g, 2, none⟩ = some (.int .i64 b) := hx.cell 2
  have y3 : W.cell? ⟨g, 3, none⟩ = some (.int .i64 c) := hx.cell 3
  have hJ0 : J [] (W.alloc (.cells #[.string (strOf [114, 101, 116]), .int .i64 1, .bool true, .bool false, .bool false, .int .i64 0, .bool false] 52)) := hJ [] W _ none h0 (World.grownBy_alloc _ _ none) (fun r h => by cases h)
  have hw0 : Whl (W.alloc (.cells #[.string (strOf [114, 101, 116]), .int .i64 1, .bool true, .bool false, .bool false, .int .i64 0, .bool false] 52)) W.heap.size 52 #[.string (strOf [114, 101, 116]), .int .i64 1, .bool true, .bool false, .bool false, .int .i64 0, .bool false] := Whl.new _ _ _
  refine callsIn_of_wp Tryd.func43 rfl trivial ?_ rfl
  simp only [Tryd.ntmps43, List.size_toArray, List.length_cons, List.length_nil, Nat.reduceAdd, Nat.reduceSub, Array.replicate_succ, Array.replicate_zero, List.push_toArray, List.append_toArray, List.nil_append, List.cons_append]
  obtain ⟨fn0, tmps0, assign0, body0, hy0, hR0⟩ := hY [] a _ hJ0 (by simp; omega)
  gi_wp2_with (refine ⟨trivial, ?_⟩; gi_at_call 10; refine (known_in Fence.wide _ trivial rfl _ _).mono ?_; rintro e w' ⟨rfl, rfl⟩)
  refine hR0.mono ?_
  rintro e W1 (⟨rfl, hJ1, hk1⟩ | ⟨rfl, hJx1⟩)
  · skip
    have hw1 := (hk1.whl hn1 hw0)
    have hx1 := hk1.whlAt hg hx0
    have x0 : W1.cell? ⟨g, 0, none⟩ = some (.int .i64 0) := hx1.cell 0
    have x1 : W1.cell? ⟨g, 1, none⟩ = some (.int .i64 a) := hx1.cell 1
    have x2 : W1.cell? ⟨g, 2, none⟩ = some (.int .i64 b) := hx1.cell 2
    have x3 : W1.cell? ⟨g, 3, none⟩ = some (.int .i64 c) := hx1.cell 3
    have p2 : W1.cell? ⟨W.heap.size, 2, none⟩ = some (.bool true) := hw1.cell 2
    have p3 : W1.cell? ⟨W.heap.size, 3, none⟩ = some (.bool false) := hw1.cell 3
    have p4 : W1.cell? ⟨W.heap.size, 4, none⟩ = some (.bool false) := hw1.cell 4
    have p6 : W1.cell? ⟨W.heap.size, 6, none⟩ = some (.bool false) := hw1.cell 6
    gi_wp2
    (try (refine ⟨fun _ _ => trivial, ?_⟩; gi_wp2))
    go_end0
    exact ⟨⟨_, rfl⟩, .inl ⟨_, rfl, hJ1⟩⟩
  · gi_wp2
    refine bodyPost_ret (results_none rfl _ _ _) rfl ?_
    exact ⟨⟨_, rfl⟩, .inr ⟨[a], ⟨[], by simp⟩, hJx1⟩⟩

set_option maxRecDepth 100000 in
set_option maxHeartbeats 4000000 in
theorem iter_1 (n : Nat) (hn : 2 ≤ n) (l g g2 n0 n1 N : Nat) (a b c nn : Int) (J Jx : List Int → World → Prop) (hN : 0 ≤ N)
    (hY : ∀ pre x W1, J pre W1 → pre.length < N → YieldAt Fence.wide (n - 1) Tryd.prog l #[.int .i64 x] W1 fun e W' =>
      (e = .returned (.bool true) ∧ J (pre ++ [x]) W' ∧ KeepI n0 n1 W1 W') ∨ (e = .returned (.bool false) ∧ Jx (pre ++ [x]) W'))
    (W : World) (hJ : AbidesFrom W.heap.size J) (hx : Whl W g 27 #[.int .i64 1, .int .i64 a, .int .i64 b, .int .i64 c, .int .i64 nn])
    (hg : g < n0 ∨ n1 ≤ g) (hn0 : n0 ≤ W.heap.size) (hn1 : n1 ≤ W.heap.size) (ht : TabOk W) (h0 : J [] W) :
    CallsIn Fence.wide n Tryd.prog 43 #[.func (.yield l) #[] #[], .pointer (some ⟨g, 0, none⟩), .pointer (some ⟨g2, 0, none⟩)] W fun e W' => (∃ v, e = .returned v) ∧
      ((∃ ys, ys = ([] : List Int) ∧ J ys W') ∨ (∃ pre, pre <+: ([] : List Int) ∧ Jx pre W')) := by
  have hk : known 1 = true := rfl
  have h1 : 1 ≤ n := by omega
  have t0 : W.cell? ⟨0, 7, none⟩ = some (.string (strOf [115, 101, 116])) := ht.word 1 (by omega)
  have t1 : W.cell? ⟨0, 8, none⟩ = some (.int .i64 1) := ht.weight 1 (by omega)
  have t2 : W.cell? ⟨0, 9, none⟩ = some (.bool true) := ht.a 1 (by omega)
  have t3 : W.cell? ⟨0, 10, none⟩ = some (.bool false) := ht.b 1 (by omega)
  have t4 : W.cell? ⟨0, 11, none⟩ = some (.bool false) := ht.c 1 (by omega)
  have t5 : W.cell? ⟨0, 12, none⟩ = some (.int .i64 1) := ht.n 1 (by omega)
  have t6 : W.cell? ⟨0, 13, none⟩ = some (.bool true) := ht.wr 1 (by omega)
  have hgW : g < W.heap.size := hx.lt
  have hx0 := hx.alloc (.cells #[.string (strOf [115, 101, 116]), .int .i64 1, .bool true, .bool false, .bool false, .int .i64 1, .bool true] 52)
  have y0 : W.cell? ⟨g, 0, none⟩ = some (.int .i64 1) := hx.cell 0
  have y1 : W.cell? ⟨g, 1, none⟩ = some (.int .i64 a) := hx.cell 1
  have y2 : W.cell? ⟨g, 2, none⟩ = some (.int .i64 b) := hx.cell 2
  have y3 : W.cell? ⟨g, 3, none⟩ = some (.int .i64 c) := hx.cell 3
  have hJ0 : J [] (W.alloc (.cells #[.string (strOf [115, 101, 116]), .int .i64 1, .bool true, .bool false, .bool false, .int .i64 1, .bool true] 52)) := hJ [] W _ none h0 (World.grownBy_alloc _ _ none) (fun r h => by cases h)
  have hw0 : Whl (W.alloc (.cells #[.string (strOf [115, 101, 116]), .int .i64 1, .bool true, .bool false, .bool false, .int .i64 1, .bool true] 52)) W.heap.size 52 #[.string (strOf [115, 101, 116]), .int .i64 1, .bool true, .bool false, .bool false, .int .i64 1, .bool true] := Whl.new _ _ _
  refine callsIn_of_wp Tryd.func43 rfl trivial ?_ rfl
  simp only [Tryd.ntmps43, List.size_toArray, List.length_cons, List.length_nil, Nat.reduceAdd, Nat.reduceSub, Array.replicate_succ, Array.replicate_zero, List.push_toArray, List.append_toArray, List.nil_append, List.cons_append]
  gi_wp2_with (refine ⟨trivial, ?_⟩; gi_at_call 10; refine (known_in Fence.wide _ trivial rfl _ _).mono ?_; rintro e w' ⟨rfl, rfl⟩)
  (try (refine ⟨fun _ _ => trivial, ?_⟩; gi_wp2))
  (try (refine ⟨fun _ _ => trivial, ?_⟩; gi_wp2))
  go_end0
  exact ⟨⟨_, rfl⟩, .inl ⟨_, rfl, hJ0⟩⟩

set_option maxRecDepth 100000 in
set_option maxHeartbeats 4000000 in
theorem iter_2 (n : Nat) (hn : 2 ≤ n) (l g g2 n0 n1 N : Nat) (a b c nn : Int) (J Jx : List Int → World → Prop) (hN : 1 ≤ N)
    (hY : ∀ pre x W1, J pre W1 → pre.length < N → YieldAt Fence.wide (n - 1) Tryd.prog l #[.int .i64 x] W1 fun e W' =>
      (e = .returned (.bool true) ∧ J (pre ++ [x]) W' ∧ KeepI n0 n1 W1 W') ∨ (e = .returned (.bool false) ∧ Jx (pre ++ [x]) W'))
    (W : World) (hJ : AbidesFrom W.heap.size J) (hx : Whl W g 27 #[.int .i64 2, .int .i64 a, .int .i64 b, .int .i64 c, .int .i64 nn])
    (hg : g < n0 ∨ n1 ≤ g) (hn0 : n0 ≤ W.heap.size) (hn1 : n1 ≤ W.heap.size) (ht : TabOk W) (h0 : J [] W) :
    CallsIn Fence.wide n Tryd.prog 43 #[.func (.yield l) #[] #[], .pointer (some ⟨g, 0, none⟩), .pointer (some ⟨g2, 0, none⟩)] W fun e W' => (∃ v, e = .returned v) ∧
      ((∃ ys, ys = ([b] : List Int) ∧ J ys W') ∨ (∃ pre, pre <+: ([b] : List Int) ∧ Jx pre W')) := by
  have hk : known 2 = true := rfl
  have h1 : 1 ≤ n := by omega
  have t0 : W.cell? ⟨0, 14, none⟩ = some (.string (strOf [109, 111, 118, 101])) := ht.word 2 (by omega)
  have t1 : W.cell? ⟨0, 15, none⟩ = some (.int .i64 1) := ht.weight 2 (by omega)
  have t2 : W.cell? ⟨0, 16, none⟩ = some (.bool true) := ht.a 2 (by omega)
  have t3 : W.cell? ⟨0, 17, none⟩ = some (.bool true) := ht.b 2 (by omega)
  have t4 : W.cell? ⟨0, 18, none⟩ = some (.bool false) := ht.c 2 (by omega)
  have t5 : W.cell? ⟨0, 19, none⟩ = some (.int .i64 0) := ht.n 2 (by omega)
  have t6 : W.cell? ⟨0, 20, none⟩ = some (.bool true) := ht.wr 2 (by omega)
  have hgW : g < W.heap.size := hx.lt
  have hx0 := hx.alloc (.cells #[.string (strOf [109, 111, 118, 101]), .int .i64 1, .bool true, .bool true, .bool false, .int .i64 0, .bool true] 52)
  have y0 : W.cell? ⟨g, 0, none⟩ = some (.int .i64 2) := hx.cell 0
  have y1 : W.cell? ⟨g, 1, none⟩ = some (.int .i64 a) := hx.cell 1
  have y2 : W.cell? ⟨g, 2, none⟩ = some (.int .i64 b) := hx.cell 2
  have y3 : W.cell? ⟨g, 3, none⟩ = some (.int .i64 c) := hx.cell 3
  have hJ0 : J [] (W.alloc (.cells #[.string (strOf [109, 111, 118, 101]), .int .i64 1, .bool true, .bool true, .bool false, .int .i64 0, .bool true] 52)) := hJ [] W _ none h0 (World.grownBy_alloc _ _ none) (fun r h => by cases h)
  have hw0 : Whl (W.alloc (.cells #[.string (strOf [109, 111, 118, 101]), .int .i64 1, .bool true, .bool true, .bool false, .int .i64 0, .bool true] 52)) W.heap.size 52 #[.string (strOf [109, 111, 118, 101]), .int .i64 1, .bool true, .bool true, .bool false, .int .i64 0, .bool true] := Whl.new _ _ _
  refine callsIn_of_wp Tryd.func43 rfl trivial ?_ rfl
  simp only [Tryd.ntmps43, List.size_toArray, List.length_cons, List.length_nil, Nat.reduceAdd, Nat.reduceSub, Array.replicate_succ, Array.replicate_zero, List.push_toArray, List.append_toArray, List.nil_append, List.cons_append]
  obtain ⟨fn0, tmps0, assign0, body0, hy0, hR0⟩ := hY [] b _ hJ0 (by simp; omega)
  gi_wp2_with (refine ⟨trivial, ?_⟩; gi_at_call 10; refine (known_in Fence.wide _ trivial rfl _ _).mono ?_; rintro e w' ⟨rfl, rfl⟩)
  (try (refine ⟨fun _ _ => trivial, ?_⟩; gi_wp2))
  refine hR0.mono ?_
  rintro e W1 (⟨rfl, hJ1, hk1⟩ | ⟨rfl, hJx1⟩)
  · skip
    have hw1 := (hk1.whl hn1 hw0)
    have hx1 := hk1.whlAt hg hx0
    have x0 : W1.cell? ⟨g, 0, none⟩ = some (.int .i64 2) := hx1.cell 0
    have x1 : W1.cell? ⟨g, 1, none⟩ = some (.int .i64 a) := hx1.cell 1
    have x2 : W1.cell? ⟨g, 2, none⟩ = some (.int .i64 b) := hx1.cell 2
    have x3 : W1.cell? ⟨g, 3, none⟩ = some (.int .i64 c) := hx1.cell 3
    have p2 : W1.cell? ⟨W.heap.size, 2, none⟩ = some (.bool true) := hw1.cell 2
    have p3 : W1.cell? ⟨W.heap.size, 3, none⟩ = some (.bool true) := hw1.cell 3
    have p4 : W1.cell? ⟨W.heap.size, 4, none⟩ = some (.bool false) := hw1.cell 4
    have p6 : W1.cell? ⟨W.heap.size, 6, none⟩ = some (.bool true) := hw1.cell 6
    gi_wp2
    go_end0
    exact ⟨⟨_, rfl⟩, .inl ⟨_, rfl, hJ1⟩⟩
  · gi_wp2
    refine bodyPost_ret (results_none rfl _ _ _) rfl ?_
    exact ⟨⟨_, rfl⟩, .inr ⟨[b], ⟨[], by simp⟩, hJx1⟩⟩

set_option maxRecDepth 100000 in
set_option maxHeartbeats 4000000 in
theorem iter_3 (n : Nat) (hn : 2 ≤ n) (l g g2 n0 n1 N : Nat) (a b c nn : Int) (J Jx : List Int → World → Prop) (hN : 2 ≤ N)
    (hY : ∀ pre x W1, J pre W1 → pre.length < N → YieldAt Fence.wide (n - 1) Tryd.prog l #[.int .i64 x] W1 fun e W' =>
      (e = .returned (.bool true) ∧ J (pre ++ [x]) W' ∧ KeepI n0 n1 W1 W') ∨ (e = .returned (.bool false) ∧ Jx (pre ++ [x]) W'))
    (W : World) (hJ : AbidesFrom W.heap.size J) (hx : Whl W g 27 #[.int .i64 3, .int .i64 a, .int .i64 b, .int .i64 c, .int .i64 nn])
    (hg : g < n0 ∨ n1 ≤ g) (hn0 : n0 ≤ W.heap.size) (hn1 : n1 ≤ W.heap.size) (ht : TabOk W) (h0 : J [] W) :
    CallsIn Fence.wide n Tryd.prog 43 #[.func (.yield l) #[] #[], .pointer (some ⟨g, 0, none⟩), .pointer (some ⟨g2, 0, none⟩)] W fun e W' => (∃ v, e = .returned v) ∧
      ((∃ ys, ys = ([b, c] : List Int) ∧ J ys W') ∨ (∃ pre, pre <+: ([b, c] : List Int) ∧ Jx pre W')) := by
  have hk : known 3 = true := rfl
  have h1 : 1 ≤ n := by omega
  have t0 : W.cell? ⟨0, 21, none⟩ = some (.string (strOf [97, 100, 100])) := ht.word 3 (by omega)
  have t1 : W.cell? ⟨0, 22, none⟩ = some (.int .i64 1) := ht.weight 3 (by omega)
  have t2 : W.cell? ⟨0, 23, none⟩ = some (.bool true) := ht.a 3 (by omega)
  have t3 : W.cell? ⟨0, 24, none⟩ = some (.bool true) := ht.b 3 (by omega)
  have t4 : W.cell? ⟨0, 25, none⟩ = some (.bool true) := ht.c 3 (by omega)
  have t5 : W.cell? ⟨0, 26, none⟩ = some (.int .i64 0) := ht.n 3 (by omega)
  have t6 : W.cell? ⟨0, 27, none⟩ = some (.bool true) := ht.wr 3 (by omega)
  have hgW : g < W.heap.size := hx.lt
  have hx0 := hx.alloc (.cells #[.string (strOf [97, 100, 100]), .int .i64 1, .bool true, .bool true, .bool true, .int .i64 0, .bool true] 52)
  have y0 : W.cell? ⟨g, 0, none⟩ = some (.int .i64 3) := hx.cell 0
  have y1 : W.cell? ⟨g, 1, none⟩ = some (.int .i64 a) := hx.cell 1
  have y2 : W.cell? ⟨g, 2, none⟩ = some (.int .i64 b) := hx.cell 2
  have y3 : W.cell? ⟨g, 3, none⟩ = some (.int .i64 c) := hx.cell 3
  have hJ0 : J [] (W.alloc (.cells #[.string (strOf [97, 100, 100]), .int .i64 1, .bool true, .bool true, .bool true, .int .i64 0, .bool true] 52)) := hJ [] W _ none h0 (World.grownBy_alloc _ _ none) (fun r h => by cases h)
  have hw0 : Whl (W.alloc (.cells #[.string (strOf [97, 100, 100]), .int .i64 1, .bool true, .bool true, .bool true, .int .i64 0, .bool true] 52)) W.heap.size 52 #[.string (strOf [97, 100, 100]), .int .i64 1, .bool true, .bool true, .bool true, .int .i64 0, .bool true] := Whl.new _ _ _
  refine callsIn_of_wp Tryd.func43 rfl trivial ?_ rfl
  simp only [Tryd.ntmps43, List.size_toArray, List.length_cons, List.length_nil, Nat.reduceAdd, Nat.reduceSub, Array.replicate_succ, Array.replicate_zero, List.push_toArray, List.append_toArray, List.nil_append, List.cons_append]
  obtain ⟨fn0, tmps0, assign0, body0, hy0, hR0⟩ := hY [] b _ hJ0 (by simp; omega)
  gi_wp2_with (refine ⟨trivial, ?_⟩; gi_at_call 10; refine (known_in Fence.wide _ trivial rfl _ _).mono ?_; rintro e w' ⟨rfl, rfl⟩)
  (try (refine ⟨fun _ _ => trivial, ?_⟩; gi_wp2))
  refine hR0.mono ?_
  rintro e W1 (⟨rfl, hJ1, hk1⟩ | ⟨rfl, hJx1⟩)
  · skip
    have hw1 := (hk1.whl hn1 hw0)
    have hx1 := hk1.whlAt hg hx0
    have x0 : W1.cell? ⟨g, 0, none⟩ = some (.int .i64 3) := hx1.cell 0
    have x1 : W1.cell? ⟨g, 1, none⟩ = some (.int .i64 a) := hx1.cell 1
    have x2 : W1.cell? ⟨g, 2, none⟩ = some (.int .i64 b) := hx1.cell 2
    have x3 : W1.cell? ⟨g, 3, none⟩ = some (.int .i64 c) := hx1.cell 3
    have p2 : W1.cell? ⟨W.heap.size, 2, none⟩ = some (.bool true) := hw1.cell 2
    have p3 : W1.cell? ⟨W.heap.size, 3, none⟩ = some (.bool true) := hw1.cell 3
    have p4 : W1.cell? ⟨W.heap.size, 4, none⟩ = some (.bool true) := hw1.cell 4
    have p6 : W1.cell? ⟨W.heap.size, 6, none⟩ = some (.bool true) := hw1.cell 6
    obtain ⟨fn1, tmps1, assign1, body1, hy1, hR1⟩ := hY [b] c _ hJ1 (by simp; omega)
    gi_wp2
    refine hR1.mono ?_
    rintro e W2 (⟨rfl, hJ2, hk2⟩ | ⟨rfl, hJx2⟩)
    · clear x0 x1 x2 x3 p2 p3 p4 p6
      have hw2 := (hk2.whl hn1 hw1)
      have hx2 := hk2.whlAt hg hx1
      have x0 : W2.cell? ⟨g, 0, none⟩ = some (.int .i64 3) := hx2.cell 0
      have x1 : W2.cell? ⟨g, 1, none⟩ = some (.int .i64 a) := hx2.cell 1
      have x2 : W2.cell? ⟨g, 2, none⟩ = some (.int .i64 b) := hx2.cell 2
      have x3 : W2.cell? ⟨g, 3, none⟩ = some (.int .i64 c) := hx2.cell 3
      have p2 : W2.cell? ⟨W.heap.size, 2, none⟩ = some (.bool true) := hw2.cell 2
      have p3 : W2.cell? ⟨W.heap.size, 3, none⟩ = some (.bool true) := hw2.cell 3
      have p4 : W2.cell? ⟨W.heap.size, 4, none⟩ = some (.bool true) := hw2.cell 4
      have p6 : W2.cell? ⟨W.heap.size, 6, none⟩ = some (.bool true) := hw2.cell 6
      gi_wp2
      go_end0
      exact ⟨⟨_, rfl⟩, .inl ⟨_, rfl, hJ2⟩⟩
    · gi_wp2
      go_end0
      exact ⟨⟨_, rfl⟩, .inr ⟨[b, c], ⟨[], by simp⟩, hJx2⟩⟩
  · gi_wp2
    refine bodyPost_ret (results_none rfl _ _ _) rfl ?_
    exact ⟨⟨_, rfl⟩, .inr ⟨[b], ⟨[c], by simp⟩, hJx1⟩⟩

set_option maxRecDepth 100000 in
set_option maxHeartbeats 4000000 in
theorem iter_4 (n : Nat) (hn : 2 ≤ n) (l g g2 n0 n1 N : Nat) (a b c nn : Int) (J Jx : List Int → World → Prop) (hN : 2 ≤ N)
    (hY : ∀ pre x W1, J pre W1 → pre.length < N → YieldAt Fence.wide (n - 1) Tryd.prog l #[.int .i64 x] W1 fun e W' =>
      (e = .returned (.bool true) ∧ J (pre ++ [x]) W' ∧ KeepI n0 n1 W1 W') ∨ (e = .returned (.bool false) ∧ Jx (pre ++ [x]) W'))
    (W : World) (hJ : AbidesFrom W.heap.size J) (hx : Whl W g 27 #[.int .i64 4, .int .i64 a, .int .i64 b, .int .i64 c, .int .i64 nn])
    (hg : g < n0 ∨ n1 ≤ g) (hn0 : n0 ≤ W.heap.size) (hn1 : n1 ≤ W.heap.size) (ht : TabOk W) (h0 : J [] W) :
    CallsIn Fence.wide n Tryd.prog 43 #[.func (.yield l) #[] #[], .pointer (some ⟨g, 0, none⟩), .pointer (some ⟨g2, 0, none⟩)] W fun e W' => (∃ v, e = .returned v) ∧
      ((∃ ys, ys = ([b, c] : List Int) ∧ J ys W') ∨ (∃ pre, pre <+: ([b, c] : List Int) ∧ Jx pre W')) := by
  have hk : known 4 = true := rfl
  have h1 : 1 ≤ n := by omega
  have t0 : W.cell? ⟨0, 28, none⟩ = some (.string (strOf [115, 117, 98])) := ht.word 4 (by omega)
  have t1 : W.cell? ⟨0, 29, none⟩ = some (.int .i64 1) := ht.weight 4 (by omega)
  have t2 : W.cell? ⟨0, 30, none⟩ = some (.bool true) := ht.a 4 (by omega)
  have t3 : W.cell? ⟨0, 31, none⟩ = some (.bool true) := ht.b 4 (by omega)
  have t4 : W.cell? ⟨0, 32, none⟩ = some (.bool true) := ht.c 4 (by omega)
  have t5 : W.cell? ⟨0, 33, none⟩ = some (.int .i64 0) := ht.n 4 (by omega)
  have t6 : W.cell? ⟨0, 34, none⟩ = some (.bool true) := ht.wr 4 (by omega)
  have hgW : g < W.heap.size := hx.lt
  have hx0 := hx.alloc (.cells #[.string (strOf [115, 117, 98]), .int .i64 1, .bool true, .bool true, .bool true, .int .i64 0, .bool true] 52)
  have y0 : W.cell? ⟨g, 0, none⟩ = some (.int .i64 4) := hx.cell 0
  have y1 : W.cell? ⟨g, 1, none⟩ = some (.int .i64 a) := hx.cell 1
  have y2 : W.cell? ⟨g, 2, none⟩ = some (.int .i64 b) := hx.cell 2
  have y3 : W.cell? ⟨g, 3, none⟩ = some (.int .i64 c) := hx.cell 3
  have hJ0 : J [] (W.alloc (.cells #[.string (strOf [115, 117, 98]), .int .i64 1, .bool true, .bool true, .bool true, .int .i64 0, .bool true] 52)) := hJ [] W _ none h0 (World.grownBy_alloc _ _ none) (fun r h => by cases h)
  have hw0 : Whl (W.alloc (.cells #[.string (strOf [115, 117, 98]), .int .i64 1, .bool true, .bool true, .bool true, .int .i64 0, .bool true] 52)) W.heap.size 52 #[.string (strOf [115, 117, 98]), .int .i64 1, .bool true, .bool true, .bool true, .int .i64 0, .bool true] := Whl.new _ _ _
  refine callsIn_of_wp Tryd.func43 rfl trivial ?_ rfl
  simp only [Tryd.ntmps43, List.size_toArray, List.length_cons, List.length_nil, Nat.reduceAdd, Nat.reduceSub, Array.replicate_succ, Array.replicate_zero, List.push_toArray, List.append_toArray, List.nil_append, List.cons_append]
  obtain ⟨fn0, tmps0, assign0, body0, hy0, hR0⟩ := hY [] b _ hJ0 (by simp; omega)
  gi_wp2_with (refine ⟨trivial, ?_⟩; gi_at_call 10; refine (known_in Fence.wide _ trivial rfl _ _).mono ?_; rintro e w' ⟨rfl, rfl⟩)
  (try (refine ⟨fun _ _ => trivial, ?_⟩; gi_wp2))
  refine hR0.mono ?_
  rintro e W1 (⟨rfl, hJ1, hk1⟩ | ⟨rfl, hJx1⟩)
  · skip
    have hw1 := (hk1.whl hn1 hw0)
    have hx1 := hk1.whlAt hg hx0
    have x0 : W1.cell? ⟨g, 0, none⟩ = some (.int .i64 4) := hx1.cell 0
    have x1 : W1.cell? ⟨g, 1, none⟩ = some (.int .i64 a) := hx1.cell 1
    have x2 : W1.cell? ⟨g, 2, none⟩ = some (.int .i64 b) := hx1.cell 2
    have x3 : W1.cell? ⟨g, 3, none⟩ = some (.int .i64 c) := hx1.cell 3
    have p2 : W1.cell? ⟨W.heap.size, 2, none⟩ = some (.bool true) := hw1.cell 2
    have p3 : W1.cell? ⟨W.heap.size, 3, none⟩ = some (.bool true) := hw1.cell 3
    have p4 : W1.cell? ⟨W.heap.size, 4, none⟩ = some (.bool true) := hw1.cell 4
    have p6 : W1.cell? ⟨W.heap.size, 6, none⟩ = some (.bool true) := hw1.cell 6
    obtain ⟨fn1, tmps1, assign1, body1, hy1, hR1⟩ := hY [b] c _ hJ1 (by simp; omega)
    gi_wp2
    refine hR1.mono ?_
    rintro e W2 (⟨rfl, hJ2, hk2⟩ | ⟨rfl, hJx2⟩)
    · clear x0 x1 x2 x3 p2 p3 p4 p6
      have hw2 := (hk2.whl hn1 hw1)
      have hx2 := hk2.whlAt hg hx1
      have x0 : W2.cell? ⟨g, 0, none⟩ = some (.int .i64 4) := hx2.cell 0
      have x1 : W2.cell? ⟨g, 1, none⟩ = some (.int .i64 a) := hx2.cell 1
      have x2 : W2.cell? ⟨g, 2, none⟩ = some (.int .i64 b) := hx2.cell 2
      have x3 : W2.cell? ⟨g, 3, none⟩ = some (.int .i64 c) := hx2.cell 3
      have p2 : W2.cell? ⟨W.heap.size, 2, none⟩ = some (.bool true) := hw2.cell 2
      have p3 : W2.cell? ⟨W.heap.size, 3, none⟩ = some (.bool true) := hw2.cell 3
      have p4 : W2.cell? ⟨W.heap.size, 4, none⟩ = some (.bool true) := hw2.cell 4
      have p6 : W2.cell? ⟨W.heap.size, 6, none⟩ = some (.bool true) := hw2.cell 6
      gi_wp2
      go_end0
      exact ⟨⟨_, rfl⟩, .inl ⟨_, rfl, hJ2⟩⟩
    · gi_wp2
      go_end0
      exact ⟨⟨_, rfl⟩, .inr ⟨[b, c], ⟨[], by simp⟩, hJx2⟩⟩
  · gi_wp2
    refine bodyPost_ret (results_none rfl _ _ _) rfl ?_
    exact ⟨⟨_, rfl⟩, .inr ⟨[b], ⟨[c], by simp⟩, hJx1⟩⟩

set_option maxRecDepth 100000 in
set_option maxHeartbeats 4000000 in
theorem iter_5 (n : Nat) (hn : 2 ≤ n) (l g g2 n0 n1 N : Nat) (a b c nn : Int) (J Jx : List Int → World → Prop) (hN : 2 ≤ N)
    (hY : ∀ pre x W1, J pre W1 → pre.length < N → YieldAt Fence.wide (n - 1) Tryd.prog l #[.int .i64 x] W1 fun e W' =>
      (e = .returned (.bool true) ∧ J (pre ++ [x]) W' ∧ KeepI n0 n1 W1 W') ∨ (e = .returned (.bool false) ∧ Jx (pre ++ [x]) W'))
    (W : World) (hJ : AbidesFrom W.heap.size J) (hx : Whl W g 27 #[.int .i64 5, .int .i64 a, .int .i64 b, .int .i64 c, .int .i64 nn])
    (hg : g < n0 ∨ n1 ≤ g) (hn0 : n0 ≤ W.heap.size) (hn1 : n1 ≤ W.heap.size) (ht : TabOk W) (h0 : J [] W) :
    CallsIn Fence.wide n Tryd.prog 43 #[.func (.yield l) #[] #[], .pointer (some ⟨g, 0, none⟩), .pointer (some ⟨g2, 0, none⟩)] W fun e W' => (∃ v, e = .returned v) ∧
      ((∃ ys, ys = ([b, c] : List Int) ∧ J ys W') ∨ (∃ pre, pre <+: ([b, c] : List Int) ∧ Jx pre W')) := by
  have hk : known 5 = true := rfl
  have h1 : 1 ≤ n := by omega
  have t0 : W.cell? ⟨0, 35, none⟩ = some (.string (strOf [109, 117, 108])) := ht.word 5 (by omega)
  have t1 : W.cell? ⟨0, 36, none⟩ = some (.int .i64 3) := ht.weight 5 (by omega)
  have t2 : W.cell? ⟨0, 37, none⟩ = some (.bool true) := ht.a 5 (by omega)
  have t3 : W.cell? ⟨0, 38, none⟩ = some (.bool true) := ht.b 5 (by omega)
  have t4 : W.cell? ⟨0, 39, none⟩ = some (.bool true) := ht.c 5 (by omega)
  have t5 : W.cell? ⟨0, 40, none⟩ = some (.int .i64 0) := ht.n 5 (by omega)
  have t6 : W.cell? ⟨0, 41, none⟩ = some (.bool true) := ht.wr 5 (by omega)
  have hgW : g < W.heap.size := hx.lt
  have hx0 := hx.alloc (.cells #[.string (strOf [109, 117, 108]), .int .i64 3, .bool true, .bool true, .bool true, .int .i64 0, .bool true] 52)
  have y0 : W.cell? ⟨g, 0, none⟩ = some (.int .i64 5) := hx.cell 0
  have y1 : W.cell? ⟨g, 1, none⟩ = some (.int .i64 a) := hx.cell 1
  have y2 : W.cell? ⟨g, 2, none⟩ = some (.int .i64 b) := hx.cell 2
  have y3 : W.cell? ⟨g, 3, none⟩ = some (.int .i64 c) := hx.cell 3
  have hJ0 : J [] (W.alloc (.cells #[.string (strOf [109, 117, 108]), .int .i64 3, .bool true, .bool true, .bool true, .int .i64 0, .bool true] 52)) := hJ [] W _ none h0 (World.grownBy_alloc _ _ none) (fun r h => by cases h)
  have hw0 : Whl (W.alloc (.cells #[.string (strOf [109, 117, 108]), .int .i64 3, .bool true, .bool true, .bool true, .int .i64 0, .bool true] 52)) W.heap.size 52 #[.string (strOf [109, 117, 108]), .int .i64 3, .bool true, .bool true, .bool true, .int .i64 0, .bool true] := Whl.new _ _ _
  refine callsIn_of_wp Tryd.func43 rfl trivial ?_ rfl
  simp only [Tryd.ntmps43, List.size_toArray, List.length_cons, List.length_nil, Nat.reduceAdd, Nat.reduceSub, Array.replicate_succ, Array.replicate_zero, List.push_toArray, List.append_toArray, List.nil_append, List.cons_append]
  obtain ⟨fn0, tmps0, assign0, body0, hy0, hR0⟩ := hY [] b _ hJ0 (by simp; omega)
  gi_wp2_with (refine ⟨trivial, ?_⟩; gi_at_call 10; refine (known_in Fence.wide _ trivial rfl _ _).mono ?_; rintro e w' ⟨rfl, rfl⟩)
  (try (refine ⟨fun _ _ => trivial, ?_⟩; gi_wp2))
  refine hR0.mono ?_
  rintro e W1 (⟨rfl, hJ1, hk1⟩ | ⟨rfl, hJx1⟩)
  · skip
    have hw1 := (hk1.whl hn1 hw0)
    have hx1 := hk1.whlAt hg hx0
    have x0 : W1.cell? ⟨g, 0, none⟩ = some (.int .i64 5) := hx1.cell 0
    have x1 : W1.cell? ⟨g, 1, none⟩ = some (.int .i64 a) := hx1.cell 1
    have x2 : W1.cell? ⟨g, 2, none⟩ = some (.int .i64 b) := hx1.cell 2
    have x3 : W1.cell? ⟨g, 3, none⟩ = some (.int .i64 c) := hx1.cell 3
    have p2 : W1.cell? ⟨W.heap.size, 2, none⟩ = some (.bool true) := hw1.cell 2
    have p3 : W1.cell? ⟨W.heap.size, 3, none⟩ = some (.bool true) := hw1.cell 3
    have p4 : W1.cell? ⟨W.heap.size, 4, none⟩ = some (.bool true) := hw1.cell 4
    have p6 : W1.cell? ⟨W.heap.size, 6, none⟩ = some (.bool true) := hw1.cell 6
    obtain ⟨fn1, tmps1, assign1, body1, hy1, hR1⟩ := hY [b] c _ hJ1 (by simp; omega)
    gi_wp2
    refine hR1.mono ?_
    rintro e W2 (⟨rfl, hJ2, hk2⟩ | ⟨rfl, hJx2⟩)
    · clear x0 x1 x2 x3 p2 p3 p4 p6
      have hw2 := (hk2.whl hn1 hw1)
      have hx2 := hk2.whlAt hg hx1
      have x0 : W2.cell? ⟨g, 0, none⟩ = some (.int .i64 5) := hx2.cell 0
      have x1 : W2.cell? ⟨g, 1, none⟩ = some (.int .i64 a) := hx2.cell 1
      have x2 : W2.cell? ⟨g, 2, none⟩ = some (.int .i64 b) := hx2.cell 2
      have x3 : W2.cell? ⟨g, 3, none⟩ = some (.int .i64 c) := hx2.cell 3
      have p2 : W2.cell? ⟨W.heap.size, 2, none⟩ = some (.bool true) := hw2.cell 2
      have p3 : W2.cell? ⟨W.heap.size, 3, none⟩ = some (.bool true) := hw2.cell 3
      have p4 : W2.cell? ⟨W.heap.size, 4, none⟩ = some (.bool true) := hw2.cell 4
      have p6 : W2.cell? ⟨W.heap.size, 6, none⟩ = some (.bool true) := hw2.cell 6
      gi_wp2
      go_end0
      exact ⟨⟨_, rfl⟩, .inl ⟨_, rfl, hJ2⟩⟩
    · gi_wp2
      go_end0
      exact ⟨⟨_, rfl⟩, .inr ⟨[b, c], ⟨[], by simp⟩, hJx2⟩⟩
  · gi_wp2
    refine bodyPost_ret (results_none rfl _ _ _) rfl ?_
    exact ⟨⟨_, rfl⟩, .inr ⟨[b], ⟨[c], by simp⟩, hJx1⟩⟩

set_option maxRecDepth 100000 in
set_option maxHeartbeats 4000000 in
theorem iter_6 (n : Nat) (hn : 2 ≤ n) (l g g2 n0 n1 N : Nat) (a b c nn : Int) (J Jx : List Int → World → Prop) (hN : 2 ≤ N)
    (hY : ∀ pre x W1, J pre W1 → pre.length < N → YieldAt Fence.wide (n - 1) Tryd.prog l #[.int .i64 x] W1 fun e W' =>
      (e = .returned (.bool true) ∧ J (pre ++ [x]) W' ∧ KeepI n0 n1 W1 W') ∨ (e = .returned (.bool false) ∧ Jx (pre ++ [x]) W'))
    (W : World) (hJ : AbidesFrom W.heap.size J) (hx : Whl W g 27 #[.int .i64 6, .int .i64 a, .int .i64 b, .int .i64 c, .int .i64 nn])
    (hg : g < n0 ∨ n1 ≤ g) (hn0 : n0 ≤ W.heap.size) (hn1 : n1 ≤ W.heap.size) (ht : TabOk W) (h0 : J [] W) :
    CallsIn Fence.wide n Tryd.prog 43 #[.func (.yield l) #[] #[], .pointer (some ⟨g, 0, none⟩), .pointer (some ⟨g2, 0, none⟩)] W fun e W' => (∃ v, e = .returned v) ∧
      ((∃ ys, ys = ([b, c] : List Int) ∧ J ys W') ∨ (∃ pre, pre <+: ([b, c] : List Int) ∧ Jx pre W')) := by
  have hk : known 6 = true := rfl
  have h1 : 1 ≤ n := by omega
  have t0 : W.cell? ⟨0, 42, none⟩ = some (.string (strOf [100, 105, 118])) := ht.word 6 (by omega)
  have t1 : W.cell? ⟨0, 43, none⟩ = some (.int .i64 8) := ht.weight 6 (by omega)
  have t2 : W.cell? ⟨0, 44, none⟩ = some (.bool true) := ht.a 6 (by omega)
  have t3 : W.cell? ⟨0, 45, none⟩ = some (.bool true) := ht.b 6 (by omega)
  have t4 : W.cell? ⟨0, 46, none⟩ = some (.bool true) := ht.c 6 (by omega)
  have t5 : W.cell? ⟨0, 47, none⟩ = some (.int .i64 0) := ht.n 6 (by omega)
  have t6 : W.cell? ⟨0, 48, none⟩ = some (.bool true) := ht.wr 6 (by omega)
  have hgW : g < W.heap.size := hx.lt
  have hx0 := hx.alloc (.cells #[.string (strOf [100, 105, 118]), .int .i64 8, .bool true, .bool true, .bool true, .int .i64 0, .bool true] 52)
  have y0 : W.cell? ⟨g, 0, none⟩ = some (.int .i64 6) := hx.cell 0
  have y1 : W.cell? ⟨g, 1, none⟩ = some (.int .i64 a) := hx.cell 1
  have y2 : W.cell? ⟨g, 2, none⟩ = some (.int .i64 b) := hx.cell 2
  have y3 : W.cell? ⟨g, 3, none⟩ = some (.int .i64 c) := hx.cell 3
  have hJ0 : J [] (W.alloc (.cells #[.string (strOf [100, 105, 118]), .int .i64 8, .bool true, .bool true, .bool true, .int .i64 0, .bool true] 52)) := hJ [] W _ none h0 (World.grownBy_alloc _ _ none) (fun r h => by cases h)
  have hw0 : Whl (W.alloc (.cells #[.string (strOf [100, 105, 118]), .int .i64 8, .bool true, .bool true, .bool true, .int .i64 0, .bool true] 52)) W.heap.size 52 #[.string (strOf [100, 105, 118]), .int .i64 8, .bool true, .bool true, .bool true, .int .i64 0, .bool true] := Whl.new _ _ _
  refine callsIn_of_wp Tryd.func43 rfl trivial ?_ rfl
  simp only [Tryd.ntmps43, List.size_toArray, List.length_cons, List.length_nil, Nat.reduceAdd, Nat.reduceSub, Array.replicate_succ, Array.replicate_zero, List.push_toArray, List.append_toArray, List.nil_append, List.cons_append]
  obtain ⟨fn0, tmps0, assign0, body0, hy0, hR0⟩ := hY [] b _ hJ0 (by simp; omega)
  gi_wp2_with (refine ⟨trivial, ?_⟩; gi_at_call 10; refine (known_in Fence.wide _ trivial rfl _ _).mono ?_; rintro e w' ⟨rfl, rfl⟩)
  (try (refine ⟨fun _ _ => trivial, ?_⟩; gi_wp2))
  refine hR0.mono ?_
  rintro e W1 (⟨rfl, hJ1, hk1⟩ | ⟨rfl, hJx1⟩)
  · skip
    have hw1 := (hk1.whl hn1 hw0)
    have hx1 := hk1.whlAt hg hx0
    have x0 : W1.cell? ⟨g, 0, none⟩ = some (.int .i64 6) := hx1.cell 0
    have x1 : W1.cell? ⟨g, 1, none⟩ = some (.int .i64 a) := hx1.cell 1
    have x2 : W1.cell? ⟨g, 2, none⟩ = some (.int .i64 b) := hx1.cell 2
    have x3 : W1.cell? ⟨g, 3, none⟩ = some (.int .i64 c) := hx1.cell 3
    have p2 : W1.cell? ⟨W.heap.size, 2, none⟩ = some (.bool true) := hw1.cell 2
    have p3 : W1.cell? ⟨W.heap.size, 3, none⟩ = some (.bool true) := hw1.cell 3
    have p4 : W1.cell? ⟨W.heap.size, 4, none⟩ = some (.bool true) := hw1.cell 4
    have p6 : W1.cell? ⟨W.heap.size, 6, none⟩ = some (.bool true) := hw1.cell 6
    obtain ⟨fn1, tmps1, assign1, body1, hy1, hR1⟩ := hY [b] c _ hJ1 (by simp; omega)
    gi_wp2
    refine hR1.mono ?_
    rintro e W2 (⟨rfl, hJ2, hk2⟩ | ⟨rfl, hJx2⟩)
    · clear x0 x1 x2 x3 p2 p3 p4 p6
      have hw2 := (hk2.whl hn1 hw1)
      have hx2 := hk2.whlAt hg hx1
      have x0 : W2.cell? ⟨g, 0, none⟩ = some (.int .i64 6) := hx2.cell 0
      have x1 : W2.cell? ⟨g, 1, none⟩ = some (.int .i64 a) := hx2.cell 1
      have x2 : W2.cell? ⟨g, 2, none⟩ = some (.int .i64 b) := hx2.cell 2
      have x3 : W2.cell? ⟨g, 3, none⟩ = some (.int .i64 c) := hx2.cell 3
      have p2 : W2.cell? ⟨W.heap.size, 2, none⟩ = some (.bool true) := hw2.cell 2
      have p3 : W2.cell? ⟨W.heap.size, 3, none⟩ = some (.bool true) := hw2.cell 3
      have p4 : W2.cell? ⟨W.heap.size, 4, none⟩ = some (.bool true) := hw2.cell 4
      have p6 : W2.cell? ⟨W.heap.size, 6, none⟩ = some (.bool true) := hw2.cell 6
      gi_wp2
      go_end0
      exact ⟨⟨_, rfl⟩, .inl ⟨_, rfl, hJ2⟩⟩
    · gi_wp2
      go_end0
      exact ⟨⟨_, rfl⟩, .inr ⟨[b, c], ⟨[], by simp⟩, hJx2⟩⟩
  · gi_wp2
    refine bodyPost_ret (results_none rfl _ _ _) rfl ?_
    exact ⟨⟨_, rfl⟩, .inr ⟨[b], ⟨[c], by simp⟩, hJx1⟩⟩

set_option maxRecDepth 100000 in
set_option maxHeartbeats 4000000 in
theorem iter_7 (n : Nat) (hn : 2 ≤ n) (l g g2 n0 n1 N : Nat) (a b c nn : Int) (J Jx : List Int → World → Prop) (hN : 2 ≤ N)
    (hY : ∀ pre x W1, J pre W1 → pre.length < N → YieldAt Fence.wide (n - 1) Tryd.prog l #[.int .i64 x] W1 fun e W' =>
      (e = .returned (.bool true) ∧ J (pre ++ [x]) W' ∧ KeepI n0 n1 W1 W') ∨ (e = .returned (.bool false) ∧ Jx (pre ++ [x]) W'))
    (W : World) (hJ : AbidesFrom W.heap.size J) (hx : Whl W g 27 #[.int .i64 7, .int .i64 a, .int .i64 b, .int .i64 c, .int .i64 nn])
    (hg : g < n0 ∨ n1 ≤ g) (hn0 : n0 ≤ W.heap.size) (hn1 : n1 ≤ W.heap.size) (ht : TabOk W) (h0 : J [] W) :
    CallsIn Fence.wide n Tryd.prog 43 #[.func (.yield l) #[] #[], .pointer (some ⟨g, 0, none⟩), .pointer (some ⟨g2, 0, none⟩)] W fun e W' => (∃ v, e = .returned v) ∧
      ((∃ ys, ys = ([b, c] : List Int) ∧ J ys W') ∨ (∃ pre, pre <+: ([b, c] : List Int) ∧ Jx pre W')) := by
  have hk : known 7 = true := rfl
  have h1 : 1 ≤ n := by omega
  have t0 : W.cell? ⟨0, 49, none⟩ = some (.string (strOf [114, 101, 109])) := ht.word 7 (by omega)
  have t1 : W.cell? ⟨0, 50, none⟩ = some (.int .i64 8) := ht.weight 7 (by omega)
  have t2 : W.cell? ⟨0, 51, none⟩ = some (.bool true) := ht.a 7 (by omega)
  have t3 : W.cell? ⟨0, 52, none⟩ = some (.bool true) := ht.b 7 (by omega)
  have t4 : W.cell? ⟨0, 53, none⟩ = some (.bool true) := ht.c 7 (by omega)
  have t5 : W.cell? ⟨0, 54, none⟩ = some (.int .i64 0) := ht.n 7 (by omega)
  have t6 : W.cell? ⟨0, 55, none⟩ = some (.bool true) := ht.wr 7 (by omega)
  have hgW : g < W.heap.size := hx.lt
  have hx0 := hx.alloc (.cells #[.string (strOf [114, 101, 109]), .int .i64 8, .bool true, .bool true, .bool true, .int .i64 0, .bool true] 52)
  have y0 : W.cell? ⟨g, 0, none⟩ = some (.int .i64 7) := hx.cell 0
  have y1 : W.cell? ⟨g, 1, none⟩ = some (.int .i64 a) := hx.cell 1
  have y2 : W.cell? ⟨g, 2, none⟩ = some (.int .i64 b) := hx.cell 2
  have y3 : W.cell? ⟨g, 3, none⟩ = some (.int .i64 c) := hx.cell 3
  have hJ0 : J [] (W.alloc (.cells #[.string (strOf [114, 101, 109]), .int .i64 8, .bool true, .bool true, .bool true, .int .i64 0, .bool true] 52)) := hJ [] W _ none h0 (World.grownBy_alloc _ _ none) (fun r h => by cases h)
  have hw0 : Whl (W.alloc (.cells #[.string (strOf [114, 101, 109]), .int .i64 8, .bool true, .bool true, .bool true, .int .i64 0, .bool true] 52)) W.heap.size 52 #[.string (strOf [114, 101, 109]), .int .i64 8, .bool true, .bool true, .bool true, .int .i64 0, .bool true] := Whl.new _ _ _
  refine callsIn_of_wp Tryd.func43 rfl trivial ?_ rfl
  simp only [Tryd.ntmps43, List.size_toArray, List.length_cons, List.length_nil, Nat.reduceAdd, Nat.reduceSub, Array.replicate_succ, Array.replicate_zero, List.push_toArray, List.append_toArray, List.nil_append, List.cons_append]
  obtain ⟨fn0, tmps0, assign0, body0, hy0, hR0⟩ := hY [] b _ hJ0 (by simp; omega)
  gi_wp2_with (refine ⟨trivial, ?_⟩; gi_at_call 10; refine (known_in Fence.wide _ trivial rfl _ _).mono ?_; rintro e w' ⟨rfl, rfl⟩)
  (try (refine ⟨fun _ _ => trivial, ?_⟩; gi_wp2))
  refine hR0.mono ?_
  rintro e W1 (⟨rfl, hJ1, hk1⟩ | ⟨rfl, hJx1⟩)
  · skip
    have hw1 := (hk1.whl hn1 hw0)
    have hx1 := hk1.whlAt hg hx0
    have x0 : W1.cell? ⟨g, 0, none⟩ = some (.int .i64 7) := hx1.cell 0
    have x1 : W1.cell? ⟨g, 1, none⟩ = some (.int .i64 a) := hx1.cell 1
    have x2 : W1.cell? ⟨g, 2, none⟩ = some (.int .i64 b) := hx1.cell 2
    have x3 : W1.cell? ⟨g, 3, none⟩ = some (.int .i64 c) := hx1.cell 3
    have p2 : W1.cell? ⟨W.heap.size, 2, none⟩ = some (.bool true) := hw1.cell 2
    have p3 : W1.cell? ⟨W.heap.size, 3, none⟩ = some (.bool true) := hw1.cell 3
    have p4 : W1.cell? ⟨W.heap.size, 4, none⟩ = some (.bool true) := hw1.cell 4
    have p6 : W1.cell? ⟨W.heap.size, 6, none⟩ = some (.bool true) := hw1.cell 6
    obtain ⟨fn1, tmps1, assign1, body1, hy1, hR1⟩ := hY [b] c _ hJ1 (by simp; omega)
    gi_wp2
    refine hR1.mono ?_
    rintro e W2 (⟨rfl, hJ2, hk2⟩ | ⟨rfl, hJx2⟩)
    · clear x0 x1 x2 x3 p2 p3 p4 p6
      have hw2 := (hk2.whl hn1 hw1)
      have hx2 := hk2.whlAt hg hx1
      have x0 : W2.cell? ⟨g, 0, none⟩ = some (.int .i64 7) := hx2.cell 0
      have x1 : W2.cell? ⟨g, 1, none⟩ = some (.int .i64 a) := hx2.cell 1
      have x2 : W2.cell? ⟨g, 2, none⟩ = some (.int .i64 b) := hx2.cell 2
      have x3 : W2.cell? ⟨g, 3, none⟩ = some (.int .i64 c) := hx2.cell 3
      have p2 : W2.cell? ⟨W.heap.size, 2, none⟩ = some (.bool true) := hw2.cell 2
      have p3 : W2.cell? ⟨W.heap.size, 3, none⟩ = some (.bool true) := hw2.cell 3
      have p4 : W2.cell? ⟨W.heap.size, 4, none⟩ = some (.bool true) := hw2.cell 4
      have p6 : W2.cell? ⟨W.heap.size, 6, none⟩ = some (.bool true) := hw2.cell 6
      gi_wp2
      go_end0
      exact ⟨⟨_, rfl⟩, .inl ⟨_, rfl, hJ2⟩⟩
    · gi_wp2
      go_end0
      exact ⟨⟨_, rfl⟩, .inr ⟨[b, c], ⟨[], by simp⟩, hJx2⟩⟩
  · gi_wp2
    refine bodyPost_ret (results_none rfl _ _ _) rfl ?_
    exact ⟨⟨_, rfl⟩, .inr ⟨[b], ⟨[c], by simp⟩, hJx1⟩⟩

set_option maxRecDepth 100000 in
set_option maxHeartbeats 4000000 in
theorem iter_8 (n : Nat) (hn : 2 ≤ n) (l g g2 n0 n1 N : Nat) (a b c nn : Int) (J Jx : List Int → World → Prop) (hN : 2 ≤ N)
    (hY : ∀ pre x W1, J pre W1 → pre.length < N → YieldAt Fence.wide (n - 1) Tryd.prog l #[.int .i64 x] W1 fun e W' =>
      (e = .returned (.bool true) ∧ J (pre ++ [x]) W' ∧ KeepI n0 n1 W1 W') ∨ (e = .returned (.bool false) ∧ Jx (pre ++ [x]) W'))
    (W : World) (hJ : AbidesFrom W.heap.size J) (hx : Whl W g 27 #[.int .i64 8, .int .i64 a, .int .i64 b, .int .i64 c, .int .i64 nn])
    (hg : g < n0 ∨ n1 ≤ g) (hn0 : n0 ≤ W.heap.size) (hn1 : n1 ≤ W.heap.size) (ht : TabOk W) (h0 : J [] W) :
    CallsIn Fence.wide n Tryd.prog 43 #[.func (.yield l) #[] #[], .pointer (some ⟨g, 0, none⟩), .pointer (some ⟨g2, 0, none⟩)] W fun e W' => (∃ v, e = .returned v) ∧
      ((∃ ys, ys = ([b, c] : List Int) ∧ J ys W') ∨ (∃ pre, pre <+: ([b, c] : List Int) ∧ Jx pre W')) := by
  have hk : known 8 = true := rfl
  have h1 : 1 ≤ n := by omega
  have t0 : W.cell? ⟨0, 56, none⟩ = some (.string (strOf [108, 101, 115, 115])) := ht.word 8 (by omega)
  have t1 : W.cell? ⟨0, 57, none⟩ = some (.int .i64 1) := ht.weight 8 (by omega)
  have t2 : W.cell? ⟨0, 58, none⟩ = some (.bool true) := ht.a 8 (by omega)
  have t3 : W.cell? ⟨0, 59, none⟩ = some (.bool true) := ht.b 8 (by omega)
  have t4 : W.cell? ⟨0, 60, none⟩ = some (.bool true) := ht.c 8 (by omega)
  have t5 : W.cell? ⟨0, 61, none⟩ = some (.int .i64 0) := ht.n 8 (by omega)
  have t6 : W.cell? ⟨0, 62, none⟩ = some (.bool true) := ht.wr 8 (by omega)
  have hgW : g < W.heap.size := hx.lt
  have hx0 := hx.alloc (.cells #[.string (strOf [108, 101, 115, 115]), .int .i64 1, .bool true, .bool true, .bool true, .int .i64 0, .bool true] 52)
  have y0 : W.cell? ⟨g, 0, none⟩ = some (.int .i64 8) := hx.cell 0
  have y1 : W.cell? ⟨g, 1, none⟩ = some (.int .i64 a) := hx.cell 1
  have y2 : W.cell? ⟨g, 2, none⟩ = some (.int .i64 b) := hx.cell 2
  have y3 : W.cell? ⟨g, 3, none⟩ = some (.int .i64 c) := hx.cell 3
  have hJ0 : J [] (W.alloc (.cells #[.string (strOf [108, 101, 115, 115]), .int .i64 1, .bool true, .bool true, .bool true, .int .i64 0, .bool true] 52)) := hJ [] W _ none h0 (World.grownBy_alloc _ _ none) (fun r h => by cases h)
  have hw0 : Whl (W.alloc (.cells #[.string (strOf [108, 101, 115, 115]), .int .i64 1, .bool true, .bool true, .bool true, .int .i64 0, .bool true] 52)) W.heap.size 52 #[.string (strOf [108, 101, 115, 115]), .int .i64 1, .bool true, .bool true, .bool true, .int .i64 0, .bool true] := Whl.new _ _ _
  refine callsIn_of_wp Tryd.func43 rfl trivial ?_ rfl
  simp only [Tryd.ntmps43, List.size_toArray, List.length_cons, List.length_nil, Nat.reduceAdd, Nat.reduceSub, Array.replicate_succ, Array.replicate_zero, List.push_toArray, List.append_toArray, List.nil_append, List.cons_append]
  obtain ⟨fn0, tmps0, assign0, body0, hy0, hR0⟩ := hY [] b _ hJ0 (by simp; omega)
  gi_wp2_with (refine ⟨trivial, ?_⟩; gi_at_call 10; refine (known_in Fence.wide _ trivial rfl _ _).mono ?_; rintro e w' ⟨rfl, rfl⟩)
  (try (refine ⟨fun _ _ => trivial, ?_⟩; gi_wp2))
  refine hR0.mono ?_
  rintro e W1 (⟨rfl, hJ1, hk1⟩ | ⟨rfl, hJx1⟩)
  · skip
    have hw1 := (hk1.whl hn1 hw0)
    have hx1 := hk1.whlAt hg hx0
    have x0 : W1.cell? ⟨g, 0, none⟩ = some (.int .i64 8) := hx1.cell 0
    have x1 : W1.cell? ⟨g, 1, none⟩ = some (.int .i64 a) := hx1.cell 1
    have x2 : W1.cell? ⟨g, 2, none⟩ = some (.int .i64 b) := hx1.cell 2
    have x3 : W1.cell? ⟨g, 3, none⟩ = some (.int .i64 c) := hx1.cell 3
    have p2 : W1.cell? ⟨W.heap.size, 2, none⟩ = some (.bool true) := hw1.cell 2
    have p3 : W1.cell? ⟨W.heap.size, 3, none⟩ = some (.bool true) := hw1.cell 3
    have p4 : W1.cell? ⟨W.heap.size, 4, none⟩ = some (.bool true) := hw1.cell 4
    have p6 : W1.cell? ⟨W.heap.size, 6, none⟩ = some (.bool true) := hw1.cell 6
    obtain ⟨fn1, tmps1, assign1, body1, hy1, hR1⟩ := hY [b] c _ hJ1 (by simp; omega)
    gi_wp2
    refine hR1.mono ?_
    rintro e W2 (⟨rfl, hJ2, hk2⟩ | ⟨rfl, hJx2⟩)
    · clear x0 x1 x2 x3 p2 p3 p4 p6
      have hw2 := (hk2.whl hn1 hw1)
      have hx2 := hk2.whlAt hg hx1
      have x0 : W2.cell? ⟨g, 0, none⟩ = some (.int .i64 8) := hx2.cell 0
      have x1 : W2.cell? ⟨g, 1, none⟩ = some (.int .i64 a) := hx2.cell 1
      have x2 : W2.cell? ⟨g, 2, none⟩ = some (.int .i64 b) := hx2.cell 2
      have x3 : W2.cell? ⟨g, 3, none⟩ = some (.int .i64 c) := hx2.cell 3
      have p2 : W2.cell? ⟨W.heap.size, 2, none⟩ = some (.bool true) := hw2.cell 2
      have p3 : W2.cell? ⟨W.heap.size, 3, none⟩ = some (.bool true) := hw2.cell 3
      have p4 : W2.cell? ⟨W.heap.size, 4, none⟩ = some (.bool true) := hw2.cell 4
      have p6 : W2.cell? ⟨W.heap.size, 6, none⟩ = some (.bool true) := hw2.cell 6
      gi_wp2
      go_end0
      exact ⟨⟨_, rfl⟩, .inl ⟨_, rfl, hJ2⟩⟩
    · gi_wp2
      go_end0
      exact ⟨⟨_, rfl⟩, .inr ⟨[b, c], ⟨[], by simp⟩, hJx2⟩⟩
  · gi_wp2
    refine bodyPost_ret (results_none rfl _ _ _) rfl ?_
    exact ⟨⟨_, rfl⟩, .inr ⟨[b], ⟨[c], by simp⟩, hJx1⟩⟩

set_option maxRecDepth 100000 in
set_option maxHeartbeats 4000000 in
theorem iter_9 (n : Nat) (hn : 2 ≤ n) (l g g2 n0 n1 N : Nat) (a b c nn : Int) (J Jx : List Int → World → Prop) (hN : 2 ≤ N)
    (hY : ∀ pre x W1, J pre W1 → pre.length < N → YieldAt Fence.wide (n - 1) Tryd.prog l #[.int .i64 x] W1 fun e W' =>
      (e = .returned (.bool true) ∧ J (pre ++ [x]) W' ∧ KeepI n0 n1 W1 W') ∨ (e = .returned (.bool false) ∧ Jx (pre ++ [x]) W'))
    (W : World) (hJ : AbidesFrom W.heap.size J) (hx : Whl W g 27 #[.int .i64 9, .int .i64 a, .int .i64 b, .int .i64 c, .int .i64 nn])
    (hg : g < n0 ∨ n1 ≤ g) (hn0 : n0 ≤ W.heap.size) (hn1 : n1 ≤ W.heap.size) (ht : TabOk W) (h0 : J [] W) :
    CallsIn Fence.wide n Tryd.prog 43 #[.func (.yield l) #[] #[], .pointer (some ⟨g, 0, none⟩), .pointer (some ⟨g2, 0, none⟩)] W fun e W' => (∃ v, e = .returned v) ∧
      ((∃ ys, ys = ([b, c] : List Int) ∧ J ys W') ∨ (∃ pre, pre <+: ([b, c] : List Int) ∧ Jx pre W')) := by
  have hk : known 9 = true := rfl
  have h1 : 1 ≤ n := by omega
  have t0 : W.cell? ⟨0, 63, none⟩ = some (.string (strOf [101, 113, 117, 97, 108])) := ht.word 9 (by omega)
  have t1 : W.cell? ⟨0, 64, none⟩ = some (.int .i64 1) := ht.weight 9 (by omega)
  have t2 : W.cell? ⟨0, 65, none⟩ = some (.bool true) := ht.a 9 (by omega)
  have t3 : W.cell? ⟨0, 66, none⟩ = some (.bool true) := ht.b 9 (by omega)
  have t4 : W.cell? ⟨0, 67, none⟩ = some (.bool true) := ht.c 9 (by omega)
  have t5 : W.cell? ⟨0, 68, none⟩ = some (.int .i64 0) := ht.n 9 (by omega)
  have t6 : W.cell? ⟨0, 69, none⟩ = some (.bool true) := ht.wr 9 (by omega)
  have hgW : g < W.heap.size := hx.lt
  have hx0 := hx.alloc (.cells #[.string (strOf [101, 113, 117, 97, 108]), .int .i64 1, .bool true, .bool true, .bool true, .int .i64 0, .bool true] 52)
  have y0 : W.cell? ⟨g, 0, none⟩ = some (.int .i64 9) := hx.cell 0
  have y1 : W.cell? ⟨g, 1, none⟩ = some (.int .i64 a) := hx.cell 1
  have y2 : W.cell? ⟨g, 2, none⟩ = some (.int .i64 b) := hx.cell 2
  have y3 : W.cell? ⟨g, 3, none⟩ = some (.int .i64 c) := hx.cell 3
  have hJ0 : J [] (W.alloc (.cells #[.string (strOf [101, 113, 117, 97, 108]), .int .i64 1, .bool true, .bool true, .bool true, .int .i64 0, .bool true] 52)) := hJ [] W _ none h0 (World.grownBy_alloc _ _ none) (fun r h => by cases h)
  have hw0 : Whl (W.alloc (.cells #[.string (strOf [101, 113, 117, 97, 108]), .int .i64 1, .bool true, .bool true, .bool true, .int .i64 0, .bool true] 52)) W.heap.size 52 #[.string (strOf [101, 113, 117, 97, 108]), .int .i64 1, .bool true, .bool true, .bool true, .int .i64 0, .bool true] := Whl.new _ _ _
  refine callsIn_of_wp Tryd.func43 rfl trivial ?_ rfl
  simp only [Tryd.ntmps43, List.size_toArray, List.length_cons, List.length_nil, Nat.reduceAdd, Nat.reduceSub, Array.replicate_succ, Array.replicate_zero, List.push_toArray, List.append_toArray, List.nil_append, List.cons_append]
  obtain ⟨fn0, tmps0, assign0, body0, hy0, hR0⟩ := hY [] b _ hJ0 (by simp; omega)
  gi_wp2_with (refine ⟨trivial, ?_⟩; gi_at_call 10; refine (known_in Fence.wide _ trivial rfl _ _).mono ?_; rintro e w' ⟨rfl, rfl⟩)
  (try (refine ⟨fun _ _ => trivial, ?_⟩; gi_wp2))
  refine hR0.mono ?_
  rintro e W1 (⟨rfl, hJ1, hk1⟩ | ⟨rfl, hJx1⟩)
  · skip
    have hw1 := (hk1.whl hn1 hw0)
    have hx1 := hk1.whlAt hg hx0
    have x0 : W1.cell? ⟨g, 0, none⟩ = some (.int .i64 9) := hx1.cell 0
    have x1 : W1.cell? ⟨g, 1, none⟩ = some (.int .i64 a) := hx1.cell 1
    have x2 : W1.cell? ⟨g, 2, none⟩ = some (.int .i64 b) := hx1.cell 2
    have x3 : W1.cell? ⟨g, 3, none⟩ = some (.int .i64 c) := hx1.cell 3
    have p2 : W1.cell? ⟨W.heap.size, 2, none⟩ = some (.bool true) := hw1.cell 2
    have p3 : W1.cell? ⟨W.heap.size, 3, none⟩ = some (.bool true) := hw1.cell 3
    have p4 : W1.cell? ⟨W.heap.size, 4, none⟩ = some (.bool true) := hw1.cell 4
    have p6 : W1.cell? ⟨W.heap.size, 6, none⟩ = some (.bool true) := hw1.cell 6
    obtain ⟨fn1, tmps1, assign1, body1, hy1, hR1⟩ := hY [b] c _ hJ1 (by simp; omega)
    gi_wp2
    refine hR1.mono ?_
    rintro e W2 (⟨rfl, hJ2, hk2⟩ | ⟨rfl, hJx2⟩)
    · clear x0 x1 x2 x3 p2 p3 p4 p6
      have hw2 := (hk2.whl hn1 hw1)
      have hx2 := hk2.whlAt hg hx1
      have x0 : W2.cell? ⟨g, 0, none⟩ = some (.int .i64 9) := hx2.cell 0
      have x1 : W2.cell? ⟨g, 1, none⟩ = some (.int .i64 a) := hx2.cell 1
      have x2 : W2.cell? ⟨g, 2, none⟩ = some (.int .i64 b) := hx2.cell 2
      have x3 : W2.cell? ⟨g, 3, none⟩ = some (.int .i64 c) := hx2.cell 3
      have p2 : W2.cell? ⟨W.heap.size, 2, none⟩ = some (.bool true) := hw2.cell 2
      have p3 : W2.cell? ⟨W.heap.size, 3, none⟩ = some (.bool true) := hw2.cell 3
      have p4 : W2.cell? ⟨W.heap.size, 4, none⟩ = some (.bool true) := hw2.cell 4
      have p6 : W2.cell? ⟨W.heap.size, 6, none⟩ = some (.bool true) := hw2.cell 6
      gi_wp2
      go_end0
      exact ⟨⟨_, rfl⟩, .inl ⟨_, rfl, hJ2⟩⟩
    · gi_wp2
      go_end0
      exact ⟨⟨_, rfl⟩, .inr ⟨[b, c], ⟨[], by simp⟩, hJx2⟩⟩
  · gi_wp2
    refine bodyPost_ret (results_none rfl _ _ _) rfl ?_
    exact ⟨⟨_, rfl⟩, .inr ⟨[b], ⟨[c], by simp⟩, hJx1⟩⟩
end Go.Proofs.YtpmffclepnkedaaDoor
