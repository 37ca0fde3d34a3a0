/-
  Layer 9 (code): rows that the call has made itself, element by element; append of a whole slice that came in, nil or not.
-/
import Derived.Test.YtjacfeohpofhpaaDoorOpenM
import Derived.Maps.AppendAt
import Derived.OwnWalk
import Derived.Laws.AppendOwnNone
namespace Go.Proofs.YtjacfeohpofhpaaDoor
open Go.RowKit
set_option linter.unusedSimpArgs false
set_option linter.unusedVariables false

/-- The cells of n elements of sz cells each. -/
def rowsL (n sz : Nat) (val : Nat → Nat → Value) : List Value := (List.range (n * sz)).map fun i => val (i / sz) (i % sz)
theorem rowsL_len (n sz : Nat) (val : Nat → Nat → Value) : (rowsL n sz val).length = n * sz := by simp [rowsL]
theorem rowsL_get {n sz : Nat} {val : Nat → Nat → Value} {k j : Nat} (hk : k < n) (hj : j < sz) : (rowsL n sz val)[k * sz + j]? = some (val k j) := by
  have h : k * sz + j < n * sz := by
    have : (k + 1) * sz ≤ n * sz := Nat.mul_le_mul_right _ hk
    rw [Nat.add_mul, Nat.one_mul] at this; omega
  simp only [rowsL, List.getElem?_map, List.getElem?_range h, Option.map_some, Option.some.injEq]
  rw [Nat.mul_comm k sz, Nat.mul_add_div (by omega), Nat.mul_add_mod, Nat.div_eq_of_lt hj, Nat.mod_eq_of_lt hj, Nat.add_zero]
theorem rowsL_congr {n sz : Nat} {u v : Nat → Nat → Value} (hz : 0 < sz) (h : ∀ k, k < n → u k = v k) : rowsL n sz u = rowsL n sz v := by
  apply List.map_congr_left
  intro i hi
  have hi := List.mem_range.1 hi
  rw [h (i / sz) ((Nat.div_lt_iff_lt_mul hz).2 hi)]
theorem rowsL_succ {n sz : Nat} {val : Nat → Nat → Value} (hz : 0 < sz) : rowsL (n + 1) sz val = rowsL n sz val ++ (List.range sz).map (val n) := by
  simp only [rowsL, Nat.add_mul, Nat.one_mul, List.range_add, List.map_append, List.map_map]
  congr 1
  apply List.map_congr_left
  intro j hj
  have hj := List.mem_range.1 hj
  simp only [Function.comp]
  rw [Nat.mul_comm n sz, Nat.mul_add_div hz, Nat.mul_add_mod, Nat.div_eq_of_lt hj, Nat.mod_eq_of_lt hj, Nat.add_zero]
/-- Where a slice that came in lies, as append wants it. -/
theorem rows_src {w : World} {B : Nat} {A : Option Addr} {n c sz : Nat} {val : Nat → Nat → Value} (h : RowsAt w B A n sz val) (hn : A = none → c = 0) (hz : 0 < sz) :
    (Value.slice A n c = .slice none 0 0 ∧ n = 0 ∧ rowsL n sz val = []) ∨ ∃ ad, A = some ad ∧ ∀ j u, (rowsL n sz val)[j]? = some u → w.cell? (ad.add j) = some u := by
  rcases Nat.eq_zero_or_pos n with rfl | hp
  · cases A with
    | none => exact .inl ⟨by rw [hn rfl], rfl, by simp [rowsL]⟩
    | some ad => exact .inr ⟨ad, rfl, fun j u hu => by simp [rowsL] at hu⟩
  · obtain ⟨b, off, rfl, hb, hc⟩ := h hp
    refine .inr ⟨_, rfl, fun j u hu => ?_⟩
    have hj : j < n * sz := by
      rcases Nat.lt_or_ge j (n * sz) with k | k
      · exact k
      · rw [List.getElem?_eq_none (by rw [rowsL_len]; exact k)] at hu; cases hu
    have hk : j / sz < n := (Nat.div_lt_iff_lt_mul hz).2 hj
    have hm : j % sz < sz := Nat.mod_lt _ hz
    have e : j / sz * sz + j % sz = j := Nat.div_add_mod' j sz
    have h1 := hc _ hk _ hm
    have h2 := rowsL_get (val := val) hk hm
    rw [e] at h2
    rw [h2] at hu
    rw [Nat.add_assoc, e] at h1
    rw [Go.WideShapes.add_plain, h1]
    exact hu
/-- What an owned row gives a reader. -/
theorem rows_of_own {w : World} {base sz : Nat} {e : TypeId} {A : Option Addr} {n m c : Nat} {val : Nat → Nat → Value} (h : w.ownsRow base e sz (.slice A m c) n (rowsL n sz val)) :
    RowsAt w w.heap.size A n sz val := by
  have hlt := h.lt
  rcases h with ⟨hl, ⟨e0, h0⟩ | ⟨g, cap, cur, e0, hb, hh, hnc, hm, hs, ht⟩⟩
  · intro hp; omega
  · cases e0
    refine fun hp => ⟨g, 0, rfl, (hlt g rfl).2, fun k hk j hj => ?_⟩
    have h2 := rowsL_get (val := val) hk hj
    have h : k * sz + j < n * sz := by
      have : (k + 1) * sz ≤ n * sz := Nat.mul_le_mul_right _ hk
      rw [Nat.add_mul, Nat.one_mul] at this; omega
    rw [← ht, List.getElem?_take_of_lt h, Array.getElem?_toList] at h2
    rw [show 0 + k * sz + j = k * sz + j by omega]
    simp only [World.cell?, hh]
    simpa using h2
theorem own_slice {w : World} {base sz : Nat} {e : TypeId} {v : Value} {n : Nat} {xs : List Value} (h : w.ownsRow base e sz v n xs) : ∃ A c, v = .slice A n c ∧ (A = none → c = 0) := by
  rcases h.2 with ⟨rfl, rfl⟩ | ⟨g, cap, cur, rfl, _⟩
  · exact ⟨none, 0, rfl, fun _ => rfl⟩
  · exact ⟨_, cap, rfl, (fun h => by cases h)⟩
theorem own_heap {w w' : World} {base sz : Nat} {e : TypeId} {v : Value} {n : Nat} {xs : List Value} (h : w.ownsRow base e sz v n xs) (hk : ∀ g, v.ownBlock = some g → w'.heap[g]? = w.heap[g]?) : w'.ownsRow base e sz v n xs := by
  rcases h with ⟨hl, h0 | ⟨g, cap, cur, rfl, hb, hh, hnc, hm, hs, ht⟩⟩
  · exact ⟨hl, .inl h0⟩
  · exact ⟨hl, .inr ⟨g, cap, cur, rfl, hb, (hk g rfl).trans hh, hnc, hm, hs, ht⟩⟩
theorem own_below {w w' : World} {base sz : Nat} {e : TypeId} {v : Value} {n : Nat} {xs : List Value} (h : w.ownsRow base e sz v n xs) (hb : Below w.heap.size w w') : w'.ownsRow base e sz v n xs :=
  own_heap h fun g hg => hb.block g (h.lt g hg).2
/-- Two owned rows of different types lie apart. -/
theorem own_apart {w : World} {b1 b2 s1 s2 : Nat} {e1 e2 : TypeId} {v1 v2 : Value} {n1 n2 : Nat} {x1 x2 : List Value} (h1 : w.ownsRow b1 e1 s1 v1 n1 x1) (h2 : w.ownsRow b2 e2 s2 v2 n2 x2) (hne : e1 ≠ e2) : v1.ownBlock = none ∨ v1.ownBlock ≠ v2.ownBlock := by
  rcases h1.2 with ⟨rfl, _⟩ | ⟨g, cap, cur, rfl, _, hh, _⟩
  · exact .inl rfl
  · refine .inr fun e => ?_
    rcases h2.2 with ⟨rfl, _⟩ | ⟨g2, cap2, cur2, rfl, _, hh2, _⟩
    · cases e
    · simp only [Value.ownBlock, Option.some.injEq] at e
      subst e
      rw [hh] at hh2
      cases hh2
      exact hne rfl
theorem own_whl {w : World} {b1 s1 : Nat} {e1 t : TypeId} {v1 : Value} {n1 g : Nat} {x1 : List Value} {cs : Array Value} (h1 : w.ownsRow b1 e1 s1 v1 n1 x1) (h2 : Whl w g t cs) (hne : t ≠ e1) : some g ≠ v1.ownBlock := fun e => by
  rcases h1.2 with ⟨rfl, _⟩ | ⟨g2, cap2, cur2, rfl, _, hh2, _⟩
  · cases e
  · simp only [Value.ownBlock, Option.some.injEq] at e
    subst e
    unfold Whl at h2
    rw [h2] at hh2
    cases hh2
    exact hne rfl
theorem own_far {w : World} {b1 s1 : Nat} {e1 : TypeId} {v1 : Value} {n1 : Nat} {x1 : List Value} (h : w.ownsRow b1 e1 s1 v1 n1 x1) {p : Addr} (u : Value) (hp : v1.ownBlock ≠ some p.block) : (w.setCell p u).ownsRow b1 e1 s1 v1 n1 x1 :=
  own_heap h fun g hg => Below.heap_setCell w p u g (fun e => hp (by rw [hg, e]))
/-- append of a slice that came in, nil or not. -/
theorem wpList_append_any {P : Program} {w : World} {ops : Array Oper} {rest : List Oper} {o : Oper} {a : Act} {Q : Exit → Act → World → Prop} (hgd : o.guard = none) (s x : Operand) (t : TypeId)
    (ho : o.op = .call { callee := .builtin .append, args := #[s, x], argTypes := #[t, t] })
    (base : Nat) (e : TypeId) (i : TypeInfo) (z : Value) (size bytes : Nat) (ht : P.underlying t = some (.slice e)) (hi : P.info? e = some i) (hz : i.zero = some z)
    (hsize : i.size = size) (hby : i.bytes = bytes) (hzs : z.cells.size = size) (hsz : 0 < size)
    (v : Value) (n : Nat) (xs : List Value) (hs : a.eval s = v) (hown : w.ownsRow base e size v n xs)
    (A : Option Addr) (m c : Nat) (val : Nat → Nat → Value) (hx : a.eval x = .slice A m c) (hsrc : RowsAt w w.heap.size A m size val) (hnil : A = none → c = 0) (h1 : ∀ k j, (val k j).oneCell' = true)
    (h63 : n + m ≤ maxLen) (hbytes : (n + m) * bytes ≤ 140737488355328) (hbase : base ≤ w.heap.size)
    (h : ∀ v' w', w'.ownsRow base e size v' (n + m) (xs ++ rowsL m size val) → w.grownBy w' v.ownBlock → wpList P ops Q rest (a.put o.dst v') w') : wpList P ops Q (o :: rest) a w := by
  rcases rows_src hsrc hnil hsz with ⟨e0, rfl, e1⟩ | ⟨ad, rfl, hc⟩
  · refine wpList_append_own_none hgd s x t ho base e i size ht hi v n xs hs hown (hx.trans e0) (h v w ?_ ⟨rfl, rfl, rfl, Nat.le_refl _, fun _ _ _ => rfl⟩)
    rw [e1, List.append_nil]; exact hown
  · exact wpList_append_own w hgd s x t ho base e i z size bytes ht hi hz hsize hby hzs hsz v n xs hs hown ad m c _ hx (rowsL_len _ _ _) hc (fun u hu => by
      obtain ⟨i, _, rfl⟩ := List.mem_map.1 hu
      exact h1 _ _) h63 hbytes hbase (fun v' w' h2 h3 _ => h v' w' h2 h3)
/-! ### Functions and modules that the call has made itself -/
structure OwnF (w : World) (base : Nat) (f : FuncD) : Prop where
  params : w.ownsRow base 50 2 (.slice f.pa f.params.length f.pc) f.params.length (rowsL f.params.length 2 fun k => spV (nthS f.params k))
  code : w.ownsRow base 52 5 (.slice f.ca f.code.length f.cc) f.code.length (rowsL f.code.length 5 fun k => insV (nthX f.code k))
structure OwnM (w : World) (base : Nat) (m : ModD) : Prop where
  ths : w.ownsRow base 2 1 (.slice m.ta m.ths.length m.tc) m.ths.length (rowsL m.ths.length 1 fun k _ => .int .i64 (nthI m.ths k))
  funcs : w.ownsRow base 45 5 (.slice m.fa m.funcs.length m.fc) m.funcs.length (rowsL m.funcs.length 5 fun k => funcV (nthF m.funcs k))
  each : ∀ k, k < m.funcs.length → OwnF w base (nthF m.funcs k)
theorem OwnF.below {w w' : World} {base : Nat} {f : FuncD} (h : OwnF w base f) (hb : Below w.heap.size w w') : OwnF w' base f := ⟨own_below h.params hb, own_below h.code hb⟩
theorem OwnM.below {w w' : World} {base : Nat} {m : ModD} (h : OwnM w base m) (hb : Below w.heap.size w w') : OwnM w' base m := ⟨own_below h.ths hb, own_below h.funcs hb, fun k hk => (h.each k hk).below hb⟩
theorem OwnF.ok {w : World} {base : Nat} {f : FuncD} (h : OwnF w base f) : FuncOk w w.heap.size f := ⟨rows_of_own h.params, rows_of_own h.code⟩
theorem OwnM.ok {w : World} {base : Nat} {m : ModD} (h : OwnM w base m) : ModOk w w.heap.size m :=
  ⟨fun h0 => by
    obtain ⟨b, off, e, hb, hc⟩ := rows_of_own h.ths h0
    exact ⟨b, off, e, hb, fun k hk => by simpa using hc k hk 0 (by omega)⟩, rows_of_own h.funcs, fun k hk => (h.each k hk).ok⟩
end Go.Proofs.YtjacfeohpofhpaaDoor
