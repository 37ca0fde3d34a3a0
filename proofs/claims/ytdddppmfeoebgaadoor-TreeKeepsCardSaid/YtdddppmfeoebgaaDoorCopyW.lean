/-
  Layer 2 (tree): what the reference's Copy makes: rows of its own with room behind; exprsOf.
-/
import Derived.Test.YtdddppmfeoebgaaDoorNodes
import Derived.Laws.MakeOwn
import Derived.Laws.AppendOwn
import Derived.OwnWalk
import Derived.Deep.AppendLies
import Derived.Deep.CutBlock
import Derived.Deep.RegionLaw
namespace Go.Proofs.YtdddppmfeoebgaaDoor
open Go.RowKit
set_option linter.unusedSimpArgs false
set_option linter.unusedVariables false
/-- One block alone has turned. -/
structure Only (g : Nat) (w w' : World) : Prop where
  os : w'.os = w.os
  tape : w'.tape = w.tape
  output : w'.output = w.output
  size : w'.heap.size = w.heap.size
  block : ∀ k, k ≠ g → w'.heap[k]? = w.heap[k]?
theorem Only.below {g B : Nat} {w0 w w' : World} (h : Only g w w') (hb : Below B w0 w) (hg : B ≤ g) : Below B w0 w' :=
  ⟨h.os.trans hb.os, h.tape.trans hb.tape, h.output.trans hb.output, by rw [h.size]; exact hb.size, fun k hk => (h.block k (by omega)).trans (hb.block k hk)⟩
theorem Only.whl {g b : Nat} {w w' : World} {t : TypeId} {cs : Array Value} (h : Only g w w') (hw : Whl w b t cs) (hb : b ≠ g) : Whl w' b t cs := (h.block b hb).trans hw
theorem only_setCell (w : World) (p : Addr) (v : Value) : Only p.block w (w.setCell p v) := ⟨rfl, rfl, rfl, by simp, fun k hk => Below.heap_setCell w p v k hk⟩
theorem only_setRow (w : World) (g : Nat) (cs : Array Value) : Only g w (w.setRow g cs) := ⟨rfl, rfl, rfl, setRow_size _ _ _, fun k hk => setRow_other w g k cs hk⟩
/-- append where there is room, in a block that is known whole. -/
theorem wpList_append_row {P : Program} (w : World) {ops : Array Oper} {rest : List Oper} {o : Oper} {a : Act} {Q : Exit → Act → World → Prop} (hgd : o.guard = none) (s x : Operand) (t : TypeId)
    (ho : o.op = .call { callee := .builtin .append, args := #[s, x], argTypes := #[t, t] }) (e : TypeId) (i : TypeInfo) (ht : P.underlying t = some (.slice e)) (hi : P.info? e = some i) (size : Nat) (hsz : i.size = size)
    (g n cap : Nat) (hs : a.eval s = .slice (some ⟨g, 0, none⟩) n cap) (cur : Array Value) (hg : Whl w g e cur) (ad : Addr) (m c : Nat) (news : List Value) (hx : a.eval x = .slice (some ad) m c) (hl : news.length = m * size)
    (hnews : ∀ j u, news[j]? = some u → w.cell? (ad.add j) = some u) (h1 : ∀ u ∈ news, u.oneCell' = true) (hroom : n + m ≤ cap) (hfit : (n + m) * size ≤ cur.size)
    (h : ∀ w' cur', Whl w' g e cur' → cur'.size = cur.size → cur'.toList.take ((n + m) * size) = cur.toList.take (n * size) ++ news → Only g w w' → wpList P ops Q rest (a.put o.dst (.slice (some ⟨g, 0, none⟩) (n + m) cap)) w') : wpList P ops Q (o :: rest) a w := by
  subst hsz
  have hfit2 : n * i.size + news.length ≤ cur.size := by rw [hl, ← Nat.add_mul]; exact hfit
  have hrun := run_append_room (P := P) w t o.type e i ht hi g n cap cur hg ad m c news hl hnews h1 hroom hfit2
  have hcl : (cur.toList.take (n * i.size) ++ news ++ cur.toList.drop (n * i.size + news.length)).length = cur.size := by
    simp only [List.length_append, List.length_take, List.length_drop, Array.length_toList]; omega
  have hk := h (w.setRow g (cur.toList.take (n * i.size) ++ news ++ cur.toList.drop (n * i.size + news.length)).toArray) _ (setRow_heap w g cur _ e (0, 0) hg) (by simpa using hcl) (by
    have e1 : (n + m) * i.size = (cur.toList.take (n * i.size) ++ news).length := by
      rw [List.length_append, List.length_take, Array.length_toList, hl, Nat.add_mul]
      have : n * i.size ≤ cur.size := by omega
      omega
    rw [e1, List.take_left']
    rfl) (only_setRow _ _ _)
  refine wpList_plain hgd fun K hK' => ?_
  unfold Oper.wp
  simp [execOp, ho, resolve, invoke, builtin, hs, hx, hrun, Result.andThen]
  exact hK' _ _ (by simpa only [List.append_assoc] using hk)
/-! ### Expressions -/
def eL (x : ExD) (g : Nat) : List Value := [.int .i64 x.kind, .int .i64 x.n, .string x.name, .slice (some ⟨g, 0, none⟩) x.args.length (x.args.length + 1)]
def endE : List Value := [.int .i64 (-77), .int .i64 0, .string ⟨#[]⟩, .slice none 0 0]
/-- The cells of n expressions whose arguments lie in blocks of their own. -/
def exRow (l : List ExD) (ch : Nat → Nat) (n : Nat) : List Value := (List.range n).flatMap fun j => eL (nthE l j) (ch j)
theorem exRow_succ (l : List ExD) (ch : Nat → Nat) (n : Nat) : exRow l ch (n + 1) = exRow l ch n ++ eL (nthE l n) (ch n) := by simp [exRow, List.range_succ]
theorem exRow_congr {l : List ExD} {ch ch2 : Nat → Nat} : ∀ {n : Nat}, (∀ j, j < n → ch j = ch2 j) → exRow l ch n = exRow l ch2 n
  | 0, _ => rfl
  | n + 1, h => by rw [exRow_succ, exRow_succ, exRow_congr (n := n) fun j hj => h j (by omega), h n (by omega)]
theorem exRow_len (l : List ExD) (ch : Nat → Nat) : ∀ n, (exRow l ch n).length = n * 4
  | 0 => rfl
  | n + 1 => by rw [exRow_succ, List.length_append, exRow_len l ch n]; simp [eL]; omega
/-- Expressions in blocks of their own, all of them from lo on and below hi, with one more behind each list. -/
inductive ExsOwn (w : World) : Nat → Nat → Nat → List ExD → Prop where
  | mk {lo hi g : Nat} {l : List ExD} (ch lo' hi' : Nat → Nat) (low : lo ≤ g) (lt : g < hi) (row : Whl w g 48 (exRow l ch l.length ++ endE).toArray)
      (into : ∀ k, k < l.length → g < lo' k ∧ hi' k ≤ hi) (apart : ∀ j k, j < k → k < l.length → hi' j ≤ lo' k)
      (kids : ∀ k, k < l.length → ExsOwn w (lo' k) (hi' k) (ch k) (nthE l k).args) : ExsOwn w lo hi g l
/-- Between lo and hi nothing has turned. -/
def Agree (lo hi : Nat) (w w' : World) : Prop := ∀ j, lo ≤ j → j < hi → w'.heap[j]? = w.heap[j]?
theorem Agree.sub {lo hi lo2 hi2 : Nat} {w w' : World} (h : Agree lo hi w w') (h1 : lo ≤ lo2) (h2 : hi2 ≤ hi) : Agree lo2 hi2 w w' := fun j a b => h j (Nat.le_trans h1 a) (Nat.lt_of_lt_of_le b h2)
theorem Agree.below {lo hi B : Nat} {w w' : World} (h : Below B w w') (hb : hi ≤ B) : Agree lo hi w w' := fun j _ b => h.block j (Nat.lt_of_lt_of_le b hb)
theorem Agree.only {lo hi g : Nat} {w w' : World} (h : Only g w w') (hg : g < lo ∨ hi ≤ g) : Agree lo hi w w' := fun j a b => h.block j (by omega)
theorem ExsOwn.keep {w w' : World} {lo hi g : Nat} {l : List ExD} (h : ExsOwn w lo hi g l) : Agree lo hi w w' → ExsOwn w' lo hi g l := by
  induction h with
  | @mk lo hi g l ch lo' hi' low lt row into apart kids ih =>
    intro ha
    exact .mk ch lo' hi' low lt ((ha g low lt).trans row) into apart fun k hk => ih k hk (ha.sub (by have := (into k hk).1; omega) (into k hk).2)
theorem ExsOwn.wide {w : World} {lo hi lo2 hi2 g : Nat} {l : List ExD} (h : ExsOwn w lo hi g l) (h1 : lo2 ≤ lo) (h2 : hi ≤ hi2) : ExsOwn w lo2 hi2 g l := by
  obtain @⟨_, _, _, _, ch, lo', hi', low, lt, row, into, apart, kids⟩ := h
  exact .mk ch lo' hi' (by omega) (by omega) row (fun k hk => ⟨(into k hk).1, Nat.le_trans (into k hk).2 h2⟩) apart kids
theorem exRow_get {l : List ExD} {ch : Nat → Nat} : ∀ {n k j : Nat}, k < n → j < 4 → (exRow l ch n)[k * 4 + j]? = some (exV (nthE l k) ⟨some ⟨ch k, 0, none⟩, (nthE l k).args.length + 1⟩ j)
  | n + 1, k, j, hk, hj => by
    rw [exRow_succ]
    by_cases e : k = n
    · subst e
      rw [List.getElem?_append_right (by rw [exRow_len]; omega), exRow_len, show k * 4 + j - k * 4 = j by omega]
      obtain rfl | rfl | rfl | rfl : j = 0 ∨ j = 1 ∨ j = 2 ∨ j = 3 := by omega
      all_goals rfl
    · rw [List.getElem?_append_left (by rw [exRow_len]; omega)]
      exact exRow_get (by omega) hj
/-- What the copy holds is what stood there. -/
theorem ExsOwn.at_ {w : World} {lo hi g : Nat} {l : List ExD} {w0 : World} {B0 : Nat} {A0 : Option Addr} (h : ExsOwn w lo hi g l) (h0 : ExsAt w0 B0 A0 l) : ExsAt w w.heap.size (some ⟨g, 0, none⟩) l := by
  induction h generalizing A0 with
  | @mk lo hi g l ch lo' hi' low lt row into apart kids ih =>
    obtain @⟨_, _, hd, len, rows, wf, kk⟩ := h0
    refine .mk (fun k => ⟨some ⟨ch k, 0, none⟩, (nthE l k).args.length + 1⟩) len (fun _ => ⟨g, 0, rfl, row.lt, fun k hk j hj => ?_⟩) wf fun k hk => ih k hk (kk k hk)
    rw [Nat.zero_add]
    refine (row.cell _).trans ?_
    rw [List.getElem?_toArray, List.getElem?_append_left (by rw [exRow_len]; omega)]
    exact exRow_get hk hj
theorem info4 : (Tryd.prog.info? 48).map (fun i => (i.zero, i.size, i.bytes)) = some (some (.agg #[.int .i64 0, .int .i64 0, .string ⟨#[]⟩, .slice none 0 0]), 4, 56) := by kernel_rfl
theorem size_zeroE : (Value.agg #[.int .i64 0, .int .i64 0, .string ⟨#[]⟩, .slice none 0 0]).cells.size = 4 := rfl
theorem makeE (c : Nat) (h : c * 56 ≤ 281474976710656) (w : World) : ∃ cur : Array Value, cur.size = c * 4 ∧ (Instr.makeSlice 46 (.int .i64 0) (.int .i64 (c : Int))).run Tryd.prog w = .ok (.slice (some ⟨w.heap.size, 0, none⟩) 0 c) (w.alloc (.cells cur 48)) := by
  obtain ⟨i, hi, hz0, hz1, hz2⟩ := info_parts info4
  have hr := run_make (P := Tryd.prog) w 46 48 i _ Tryd.underlying46 hi hz0 .i64 .i64 0 c (Int.le_refl _) (by omega) (by rw [hz2]; omega) (by omega)
  simp only [Int.toNat_zero, Int.toNat_natCast] at hr
  exact ⟨_, by rw [size_madeCells, hz1], hr⟩
def EOwn (B0 : Nat) (l : List ExD) (w : World) (e : Ending) (w' : World) : Prop := ∃ g, e = .returned (.slice (some ⟨g, 0, none⟩) l.length (l.length + 1)) ∧ ExsOwn w' w.heap.size w'.heap.size g l ∧ Below w.heap.size w w'
def EOfAt (N : Nat) : Prop := ∀ (l : List ExD) (A : Option Addr) (c B : Nat) (w : World), SizeOf.sizeOf l < N → B ≤ w.heap.size → ExsAt w B A l → Calls Tryd.prog 67 #[.slice A l.length c] w (EOwn 0 l w)
/-- So far. -/
structure EMid (w W : World) (l : List ExD) (k : Nat) (cur : Array Value) (ch lo' hi' : Nat → Nat) : Prop where
  row : Whl W w.heap.size 48 cur
  size : cur.size = (l.length + 1) * 4
  done : cur.toList.take (k * 4) = exRow l ch k
  into : ∀ j, j < k → w.heap.size < lo' j ∧ hi' j ≤ W.heap.size
  apart : ∀ i j, i < j → j < k → hi' i ≤ lo' j
  kids : ∀ j, j < k → ExsOwn W (lo' j) (hi' j) (ch j) (nthE l j).args
  below : Below w.heap.size w W
theorem EMid.snoc {w W W2 W3 : World} {l : List ExD} {k g lo2 hi2 : Nat} {cur cur3 : Array Value} {ch lo' hi' : Nat → Nat} (h : EMid w W l k cur ch lo' hi') (ha : Agree (w.heap.size + 1) W.heap.size W W2) (hsz : W.heap.size ≤ W2.heap.size)
    (ho : ExsOwn W2 lo2 hi2 g (nthE l k).args) (h1 : W.heap.size ≤ lo2) (h2 : hi2 ≤ W2.heap.size) (hr : Whl W3 w.heap.size 48 cur3) (hs3 : cur3.size = cur.size) (ht : cur3.toList.take ((k + 1) * 4) = cur.toList.take (k * 4) ++ eL (nthE l k) g) (hon : Only w.heap.size W2 W3) (hb : Below w.heap.size w W3) (hlt : w.heap.size < W.heap.size) :
    EMid w W3 l (k + 1) cur3 (fun j => if j = k then g else ch j) (fun j => if j = k then lo2 else lo' j) (fun j => if j = k then hi2 else hi' j) := by
  refine ⟨hr, hs3.trans h.size, ?_, fun j hj => ?_, fun i j hij hj => ?_, fun j hj => ?_, hb⟩
  · rw [ht, h.done, exRow_succ]
    simp only [if_true]
    congr 1
    exact exRow_congr fun j hj => by rw [if_neg (by omega)]
  · rw [hon.size]
    by_cases e : j = k
    · subst e; simp only [if_true]; omega
    · simp only [if_neg e]
      have := h.into j (by omega); omega
  · by_cases e : j = k
    · subst e
      simp only [if_true, if_neg (show ¬ i = j by omega)]
      have := h.into i (by omega); omega
    · simp only [if_neg e, if_neg (show ¬ i = k by omega)]
      exact h.apart i j hij (by omega)
  · by_cases e : j = k
    · subst e
      simp only [if_true]
      exact ho.keep (Agree.only hon (.inl (by omega)))
    · simp only [if_neg e]
      have hi := h.into j (by omega)
      exact ((h.kids j (by omega)).keep (ha.sub (by omega) (by omega))).keep (Agree.only hon (.inl (by omega)))
set_option maxRecDepth 100000 in
set_option maxHeartbeats 16000000 in
theorem exprsOfN (N : Nat) : EOfAt N := by
  induction N with
  | zero => intro l A c B w hN; omega
  | succ N ih =>
    intro l A c B w hN hB hk
    have IH := Lib.hid ih
    obtain ⟨hd, rows, kids, len, _⟩ := hk.open_ w.heap.size
    have HR := Lib.hid rows
    have HK := Lib.hid kids
    clear ih hk rows kids
    obtain ⟨i0, hi, hz0, hz1, hz2⟩ := info_parts info4
    obtain ⟨cur0, hcs, hmk⟩ := makeE (l.length + 1) (by omega) w
    rw [show ((l.length + 1 : Nat) : Int) = (l.length : Int) + 1 by omega] at hmk
    go_enter Tryd.func67, Tryd.ntmps67
    go_wp2
    have hm0 : EMid w (w.alloc (.cells cur0 48)) l 0 cur0 (fun _ => 0) (fun _ => 0) (fun _ => 0) := ⟨Whl.new _ _ _, hcs, by simp [exRow], fun j hj => by omega, fun i j _ hj => by omega, fun j hj => by omega, below_alloc (Below.refl _ _) _⟩
    clear hmk hcs
    go_loopw [3, 4] (fun s i W => ∃ (k : Nat) (cur : Array Value) (ch lo' hi' : Nat → Nat), k ≤ l.length ∧ i = .int .i64 k ∧ s = .slice (some ⟨w.heap.size, 0, none⟩) k (l.length + 1) ∧ Hid (EMid w W l k cur ch lo' hi')) (fun _ i _ => l.length - (intOf i).toNat)
    case atStart => exact ⟨0, cur0, _, _, _, Nat.zero_le _, rfl, rfl, Lib.hid hm0⟩
    case round =>
      obtain ⟨k, cur, ch, lo', hi', hk, rfl, rfl, HM⟩ := hrel
      have hWl := HM.out.below.size
      have hrl := HM.out.row.lt
      have hcz := HM.out.size
      have HCZ := Lib.hid hcz
      clear hcz
      by_cases hlt : k < l.length
      · have hsz : SizeOf.sizeOf (nthE l k) < SizeOf.sizeOf l := getD_size _ hlt
        have hsa := args_size (nthE l k)
        obtain ⟨b, off, rfl, c0, c1, c2, c3⟩ := HR.out wr ⟨HM.out.below.mono hB, fun b t cs _ _ h => h.below' HM.out.below⟩ k hlt
        have lb : b < wr.heap.size := World.block_lt_of_cell? _ _ c0
        have HC := Lib.hid (IH.out (nthE l k).args (hd k).a (hd k).c B (wr.alloc (.cells (exC (nthE l k) (hd k)) 48)) (by omega) (by rw [World.size_alloc]; omega) ((HK.out k hlt).keep (below_alloc HM.out.below _) hB))
        go_wp2_with (first
          | (go_at_call 67; go_must (refine HC.out.mono ?_; rintro e w1 ⟨g1, rfl, ho1, hb1⟩; have X1 := (Whl.new wr 48 (exC (nthE l k) (hd k))).below' hb1; obtain ⟨d0, d1, d2, d3⟩ := X1.c4; have z3 := X1.frozen 3; have lx1 := X1.lt; have hb1s := hb1.size; have HO1 := Lib.hid ho1; have R1 := Lib.hid ((HM.out.row.alloc (.cells (exC (nthE l k) (hd k)) 48)).below' hb1)))
          | (at_builtin; go_must (refine wpList_append_row _ rfl _ _ 46 rfl 48 i0 Tryd.underlying46 hi 4 hz1 w.heap.size k (l.length + 1) rfl cur ((R1.out.far (show w.heap.size ≠ wr.heap.size by omega) _).alloc _) ⟨w1.heap.size, 0, none⟩ 1 1 (eL (nthE l k) g1) rfl rfl (World.news_of_block (Whl.newAt (by simp) 48 (eL (nthE l k) g1).toArray)) (by intro u hu; simp [eL] at hu; rcases hu with rfl | rfl | rfl | rfl <;> rfl) (by omega) (by have := HCZ.out; omega) ?_; intro w3 cur3 hw3 hs3 ht3 hon3)))
        have hbW : Below wr.heap.size wr ((w1.setCell ⟨wr.heap.size, 3, none⟩ (.slice (some ⟨g1, 0, none⟩) (nthE l k).args.length ((nthE l k).args.length + 1))).alloc (.cells (eL (nthE l k) g1).toArray 48)) := below_alloc ((below_step (below_alloc (Below.refl _ _) _) hb1).setCell (Nat.le_refl _) _) _
        have hks : ExsOwn ((w1.setCell ⟨wr.heap.size, 3, none⟩ (.slice (some ⟨g1, 0, none⟩) (nthE l k).args.length ((nthE l k).args.length + 1))).alloc (.cells (eL (nthE l k) g1).toArray 48)) (wr.heap.size + 1) w1.heap.size g1 (nthE l k).args := by
          have h0 := HO1.out
          rw [World.size_alloc] at h0
          refine (h0.keep (Agree.only (only_setCell w1 ⟨wr.heap.size, 3, none⟩ (.slice (some ⟨g1, 0, none⟩) (nthE l k).args.length ((nthE l k).args.length + 1))) (.inl (Nat.lt_succ_self _)))).keep (Agree.below ((Below.refl _ _).alloc (Nat.le_refl _) _) (by simp))
        have hfin := HM.out.snoc (Agree.below hbW (Nat.le_refl _)) hbW.size hks (Nat.le_succ _) (by simp) hw3 hs3 ht3 hon3 (hon3.below (below_step HM.out.below hbW) (Nat.le_refl _)) hrl
        refine ⟨⟨k + 1, cur3, _, _, _, by omega, by go_num, rfl, Lib.hid hfin⟩, by simp [intOf]; omega⟩
      · obtain rfl : k = l.length := by omega
        go_wp2_with (at_builtin; go_must (refine wpList_append_row _ rfl _ _ 46 rfl 48 i0 Tryd.underlying46 hi 4 hz1 w.heap.size l.length (l.length + 1) rfl cur (HM.out.row.alloc _) ⟨wr.heap.size, 0, none⟩ 1 1 endE rfl rfl (World.news_of_block (Whl.newAt rfl 48 endE.toArray)) (by intro u hu; simp [endE] at hu; rcases hu with rfl | rfl | rfl | rfl <;> rfl) (by omega) (by have := HCZ.out; omega) ?_; intro w3 cur3 hw3 hs3 ht3 hon3))
        go_ret
        have hbA : Below wr.heap.size wr (wr.alloc (.cells endE.toArray 48)) := below_alloc (Below.refl _ _) _
        refine ⟨w.heap.size, rfl, .mk ch lo' hi' (Nat.le_refl _) hw3.lt ?_ (fun j hj => ?_) HM.out.apart (fun j hj => ?_), hon3.below (below_step HM.out.below hbA) (Nat.le_refl _)⟩
        · have e : cur3 = (exRow l ch l.length ++ endE).toArray := by
            apply Array.toList_inj.1
            rw [← HM.out.done, ← ht3, List.take_of_length_le (by rw [Array.length_toList, hs3, HCZ.out]; exact Nat.le_refl _)]
          rw [← e]; exact hw3
        · have := HM.out.into j hj
          rw [hon3.size, World.size_alloc]; omega
        · have hi := HM.out.into j hj
          exact ((HM.out.kids j hj).keep (Agree.below hbA (by omega))).keep (Agree.only hon3 (.inl (by omega)))
end Go.Proofs.YtdddppmfeoebgaaDoor

/-
  Layer 2 (tree): statements in blocks of their own, with one more behind each list.
-/
namespace Go.Proofs.YtdddppmfeoebgaaDoor
open Go.RowKit
set_option linter.unusedSimpArgs false
set_option linter.unusedVariables false
/-- The blocks of what a statement has. -/
structure Ch where
  a : Nat
  b : Nat
  body : Nat
  els : Nat
  cases : Nat
/-- .. and between which blocks all that lies. -/
structure Iv where
  ll : Nat
  la : Nat
  ha : Nat
  lb : Nat
  hb : Nat
  lB : Nat
  hB : Nat
  lE : Nat
  hE : Nat
  hh : Nat
structure IvOk (g hi : Nat) (v : Iv) (gc : Nat) : Prop where
  g : g < v.ll
  a0 : v.ll ≤ v.la
  a1 : v.la ≤ v.ha
  b0 : v.ha ≤ v.lb
  b1 : v.lb ≤ v.hb
  c0 : v.hb ≤ v.lB
  c1 : v.lB ≤ v.hB
  d0 : v.hB ≤ v.lE
  d1 : v.lE ≤ v.hE
  e0 : v.hE ≤ gc
  e1 : gc < v.hh
  hi : v.hh ≤ hi
def ownS_ (g n : Nat) : Value := .slice (some ⟨g, 0, none⟩) n (n + 1)
def hdOf (x : StD) (c : Ch) : HdS := ⟨⟨some ⟨c.a, 0, none⟩, x.a.args.length + 1⟩, ⟨some ⟨c.b, 0, none⟩, x.b.args.length + 1⟩, ⟨some ⟨c.body, 0, none⟩, x.body.length + 1⟩, ⟨some ⟨c.els, 0, none⟩, x.els.length + 1⟩, ⟨some ⟨c.cases, 0, none⟩, x.cases.length + 1⟩⟩
def sL (x : StD) (c : Ch) : List Value := (stC x (hdOf x c)).toList
def endSt : List Value := [.int .i64 (-77), .string ⟨#[]⟩, .int .i64 0, .int .i64 0, .int .i64 0, .string ⟨#[]⟩, .slice none 0 0, .int .i64 0, .int .i64 0, .string ⟨#[]⟩, .slice none 0 0, .slice none 0 0, .slice none 0 0, .slice none 0 0]
def cL (x : CaD) (g : Nat) : List Value := [.int .i64 x.n, .slice (some ⟨g, 0, none⟩) x.body.length (x.body.length + 1)]
def endCa : List Value := [.int .i64 (-77), .slice none 0 0]
def stRow (l : List StD) (ch : Nat → Ch) (n : Nat) : List Value := (List.range n).flatMap fun j => sL (nthS l j) (ch j)
def caRow (l : List CaD) (ch : Nat → Nat) (n : Nat) : List Value := (List.range n).flatMap fun j => cL (nthC l j) (ch j)
theorem stRow_succ (l : List StD) (ch : Nat → Ch) (n : Nat) : stRow l ch (n + 1) = stRow l ch n ++ sL (nthS l n) (ch n) := by simp [stRow, List.range_succ]
theorem caRow_succ (l : List CaD) (ch : Nat → Nat) (n : Nat) : caRow l ch (n + 1) = caRow l ch n ++ cL (nthC l n) (ch n) := by simp [caRow, List.range_succ]
theorem stRow_congr {l : List StD} {ch ch2 : Nat → Ch} : ∀ {n : Nat}, (∀ j, j < n → ch j = ch2 j) → stRow l ch n = stRow l ch2 n
  | 0, _ => rfl
  | n + 1, h => by rw [stRow_succ, stRow_succ, stRow_congr (n := n) fun j hj => h j (by omega), h n (by omega)]
theorem caRow_congr {l : List CaD} {ch ch2 : Nat → Nat} : ∀ {n : Nat}, (∀ j, j < n → ch j = ch2 j) → caRow l ch n = caRow l ch2 n
  | 0, _ => rfl
  | n + 1, h => by rw [caRow_succ, caRow_succ, caRow_congr (n := n) fun j hj => h j (by omega), h n (by omega)]
theorem stRow_len (l : List StD) (ch : Nat → Ch) : ∀ n, (stRow l ch n).length = n * 14
  | 0 => rfl
  | n + 1 => by rw [stRow_succ, List.length_append, stRow_len l ch n]; simp [sL]; omega
theorem caRow_len (l : List CaD) (ch : Nat → Nat) : ∀ n, (caRow l ch n).length = n * 2
  | 0 => rfl
  | n + 1 => by rw [caRow_succ, List.length_append, caRow_len l ch n]; simp [cL]; omega
theorem stRow_get {l : List StD} {ch : Nat → Ch} : ∀ {n k j : Nat}, k < n → j < 14 → (stRow l ch n)[k * 14 + j]? = some (stV (nthS l k) (hdOf (nthS l k) (ch k)) j)
  | n + 1, k, j, hk, hj => by
    rw [stRow_succ]
    by_cases e : k = n
    · subst e
      rw [List.getElem?_append_right (by rw [stRow_len]; omega), stRow_len, show k * 14 + j - k * 14 = j by omega]
      match j, hj with
      | 0, _ => rfl
      | 1, _ => rfl
      | 2, _ => rfl
      | 3, _ => rfl
      | 4, _ => rfl
      | 5, _ => rfl
      | 6, _ => rfl
      | 7, _ => rfl
      | 8, _ => rfl
      | 9, _ => rfl
      | 10, _ => rfl
      | 11, _ => rfl
      | 12, _ => rfl
      | 13, _ => rfl
    · rw [List.getElem?_append_left (by rw [stRow_len]; omega)]
      exact stRow_get (by omega) hj
theorem caRow_get {l : List CaD} {ch : Nat → Nat} : ∀ {n k j : Nat}, k < n → j < 2 → (caRow l ch n)[k * 2 + j]? = some (caV (nthC l k) ⟨some ⟨ch k, 0, none⟩, (nthC l k).body.length + 1⟩ j)
  | n + 1, k, j, hk, hj => by
    rw [caRow_succ]
    by_cases e : k = n
    · subst e
      rw [List.getElem?_append_right (by rw [caRow_len]; omega), caRow_len, show k * 2 + j - k * 2 = j by omega]
      obtain rfl | rfl : j = 0 ∨ j = 1 := by omega
      all_goals rfl
    · rw [List.getElem?_append_left (by rw [caRow_len]; omega)]
      exact caRow_get (by omega) hj
/-- Statements in blocks of their own, all of them from lo on and below hi. -/
inductive StsOwn (w : World) : Nat → Nat → Nat → List StD → Prop where
  | mk {lo hi g : Nat} {l : List StD} (ch : Nat → Ch) (cb : Nat → Nat → Nat) (iv : Nat → Iv) (lc hc : Nat → Nat → Nat) (low : lo ≤ g) (lt : g < hi) (row : Whl w g 53 (stRow l ch l.length ++ endSt).toArray)
      (ord : ∀ k, k < l.length → IvOk g hi (iv k) (ch k).cases) (apart : ∀ j k, j < k → k < l.length → (iv j).hh ≤ (iv k).ll)
      (ea : ∀ k, k < l.length → ExsOwn w (iv k).la (iv k).ha (ch k).a (nthS l k).a.args) (eb : ∀ k, k < l.length → ExsOwn w (iv k).lb (iv k).hb (ch k).b (nthS l k).b.args)
      (body : ∀ k, k < l.length → StsOwn w (iv k).lB (iv k).hB (ch k).body (nthS l k).body) (els : ∀ k, k < l.length → StsOwn w (iv k).lE (iv k).hE (ch k).els (nthS l k).els)
      (crow : ∀ k, k < l.length → Whl w (ch k).cases 89 (caRow (nthS l k).cases (cb k) (nthS l k).cases.length ++ endCa).toArray)
      (cinto : ∀ k, k < l.length → ∀ j, j < (nthS l k).cases.length → (ch k).cases < lc k j ∧ hc k j ≤ (iv k).hh)
      (capart : ∀ k, k < l.length → ∀ i j, i < j → j < (nthS l k).cases.length → hc k i ≤ lc k j)
      (cbody : ∀ k, k < l.length → ∀ j, j < (nthS l k).cases.length → StsOwn w (lc k j) (hc k j) (cb k j) (nthC (nthS l k).cases j).body) : StsOwn w lo hi g l
theorem StsOwn.keep {w w' : World} {lo hi g : Nat} {l : List StD} (h : StsOwn w lo hi g l) : Agree lo hi w w' → StsOwn w' lo hi g l := by
  induction h with
  | @mk lo hi g l ch cb iv lc hc low lt row ord apart ea eb body els crow cinto capart cbody ih1 ih2 ih3 =>
    intro ha
    refine .mk ch cb iv lc hc low lt ((ha g low lt).trans row) ord apart (fun k hk => ?_) (fun k hk => ?_) (fun k hk => ?_) (fun k hk => ?_) (fun k hk => ?_) cinto capart (fun k hk j hj => ?_)
    all_goals obtain ⟨o0, o1, o2, o3, o4, o5, o6, o7, o8, o9, o10, o11⟩ := ord k hk
    · exact (ea k hk).keep (ha.sub (by omega) (by omega))
    · exact (eb k hk).keep (ha.sub (by omega) (by omega))
    · exact ih1 k hk (ha.sub (by omega) (by omega))
    · exact ih2 k hk (ha.sub (by omega) (by omega))
    · exact (ha _ (by omega) (by omega)).trans (crow k hk)
    · have := cinto k hk j hj
      exact ih3 k hk j hj (ha.sub (by omega) (by omega))
theorem StsOwn.at_ {w : World} {lo hi g : Nat} {l : List StD} {w0 : World} {B0 : Nat} {A0 : Option Addr} (h : StsOwn w lo hi g l) (h0 : StsAt w0 B0 A0 l) : StsAt w w.heap.size (some ⟨g, 0, none⟩) l := by
  induction h generalizing A0 with
  | @mk lo hi g l ch cb iv lc hc low lt row ord apart ea eb body els crow cinto capart cbody ih1 ih2 ih3 =>
    obtain @⟨_, _, hd, hcs, len, rows, wf, ea0, eb0, body0, els0, clen, crow0, cwf, cbody0⟩ := h0
    refine .mk (fun k => hdOf (nthS l k) (ch k)) (fun k j => ⟨some ⟨cb k j, 0, none⟩, (nthC (nthS l k).cases j).body.length + 1⟩) len (fun _ => ⟨g, 0, rfl, row.lt, fun k hk j hj => ?_⟩) wf (fun k hk => (ea k hk).at_ (ea0 k hk)) (fun k hk => (eb k hk).at_ (eb0 k hk))
      (fun k hk => ih1 k hk (body0 k hk)) (fun k hk => ih2 k hk (els0 k hk)) clen (fun k hk _ => ⟨(ch k).cases, 0, rfl, (crow k hk).lt, fun j hj i hi => ?_⟩) cwf (fun k hk j hj => ih3 k hk j hj (cbody0 k hk j hj))
    · rw [Nat.zero_add]
      refine (row.cell _).trans ?_
      rw [List.getElem?_toArray, List.getElem?_append_left (by rw [stRow_len]; omega)]
      exact stRow_get hk hj
    · rw [Nat.zero_add]
      refine ((crow k hk).cell _).trans ?_
      rw [List.getElem?_toArray, List.getElem?_append_left (by rw [caRow_len]; omega)]
      exact caRow_get hj hi
end Go.Proofs.YtdddppmfeoebgaaDoor

/-
  Layer 2 (tree): the walk of stmtsOf.
-/
namespace Go.Proofs.YtdddppmfeoebgaaDoor
open Go.RowKit
set_option linter.unusedSimpArgs false
set_option linter.unusedVariables false
/-- One statement, all that it has in blocks of its own. -/
structure StOne (W : World) (x : StD) (c : Ch) (cb : Nat → Nat) (v : Iv) (lc hc : Nat → Nat) : Prop where
  ea : ExsOwn W v.la v.ha c.a x.a.args
  eb : ExsOwn W v.lb v.hb c.b x.b.args
  body : StsOwn W v.lB v.hB c.body x.body
  els : StsOwn W v.lE v.hE c.els x.els
  crow : Whl W c.cases 89 (caRow x.cases cb x.cases.length ++ endCa).toArray
  cinto : ∀ j, j < x.cases.length → c.cases < lc j ∧ hc j ≤ v.hh
  capart : ∀ i j, i < j → j < x.cases.length → hc i ≤ lc j
  cbody : ∀ j, j < x.cases.length → StsOwn W (lc j) (hc j) (cb j) (nthC x.cases j).body
theorem StOne.keep {W W' : World} {x : StD} {c : Ch} {cb : Nat → Nat} {v : Iv} {lc hc : Nat → Nat} {g hi : Nat} (h : StOne W x c cb v lc hc) (o : IvOk g hi v c.cases) (ha : Agree v.ll v.hh W W') : StOne W' x c cb v lc hc := by
  obtain ⟨o0, o1, o2, o3, o4, o5, o6, o7, o8, o9, o10, o11⟩ := o
  exact ⟨h.ea.keep (ha.sub (by omega) (by omega)), h.eb.keep (ha.sub (by omega) (by omega)), h.body.keep (ha.sub (by omega) (by omega)), h.els.keep (ha.sub (by omega) (by omega)), (ha _ (by omega) (by omega)).trans h.crow, h.cinto, h.capart,
    fun j hj => (h.cbody j hj).keep (ha.sub (by have := h.cinto j hj; omega) (by have := h.cinto j hj; omega))⟩
/-- So far. -/
structure SMid (w W : World) (l : List StD) (k : Nat) (cur : Array Value) (ch : Nat → Ch) (cb : Nat → Nat → Nat) (iv : Nat → Iv) (lc hc : Nat → Nat → Nat) : Prop where
  row : Whl W w.heap.size 53 cur
  size : cur.size = (l.length + 1) * 14
  done : cur.toList.take (k * 14) = stRow l ch k
  ord : ∀ j, j < k → IvOk w.heap.size W.heap.size (iv j) (ch j).cases
  apart : ∀ i j, i < j → j < k → (iv i).hh ≤ (iv j).ll
  one : ∀ j, j < k → StOne W (nthS l j) (ch j) (cb j) (iv j) (lc j) (hc j)
  below : Below w.heap.size w W
/-- Cases so far. -/
structure CMid (w W : World) (l : List CaD) (k : Nat) (cur : Array Value) (ch lo' hi' : Nat → Nat) : Prop where
  row : Whl W w.heap.size 89 cur
  size : cur.size = (l.length + 1) * 2
  done : cur.toList.take (k * 2) = caRow l ch k
  into : ∀ j, j < k → w.heap.size < lo' j ∧ hi' j ≤ W.heap.size
  apart : ∀ i j, i < j → j < k → hi' i ≤ lo' j
  kids : ∀ j, j < k → StsOwn W (lo' j) (hi' j) (ch j) (nthC l j).body
  below : Below w.heap.size w W
theorem CMid.snoc {w W W2 W3 : World} {l : List CaD} {k g lo2 hi2 : Nat} {cur cur3 : Array Value} {ch lo' hi' : Nat → Nat} (h : CMid w W l k cur ch lo' hi') (ha : Agree (w.heap.size + 1) W.heap.size W W2) (hsz : W.heap.size ≤ W2.heap.size)
    (ho : StsOwn W2 lo2 hi2 g (nthC l k).body) (h1 : W.heap.size ≤ lo2) (h2 : hi2 ≤ W2.heap.size) (hr : Whl W3 w.heap.size 89 cur3) (hs3 : cur3.size = cur.size) (ht : cur3.toList.take ((k + 1) * 2) = cur.toList.take (k * 2) ++ cL (nthC l k) g) (hon : Only w.heap.size W2 W3) (hb : Below w.heap.size w W3) (hlt : w.heap.size < W.heap.size) :
    CMid w W3 l (k + 1) cur3 (fun j => if j = k then g else ch j) (fun j => if j = k then lo2 else lo' j) (fun j => if j = k then hi2 else hi' j) := by
  refine ⟨hr, hs3.trans h.size, ?_, fun j hj => ?_, fun i j hij hj => ?_, fun j hj => ?_, hb⟩
  · rw [ht, h.done, caRow_succ]
    simp only [if_true]
    congr 1
    exact caRow_congr fun j hj => by rw [if_neg (by omega)]
  · rw [hon.size]
    by_cases e : j = k
    · subst e; simp only [if_true]; omega
    · simp only [if_neg e]
      have := h.into j (by omega); omega
  · by_cases e : j = k
    · subst e
      simp only [if_true, if_neg (show ¬ i = j by omega)]
      have := h.into i (by omega); omega
    · simp only [if_neg e, if_neg (show ¬ i = k by omega)]
      exact h.apart i j hij (by omega)
  · by_cases e : j = k
    · subst e
      simp only [if_true]
      exact ho.keep (Agree.only hon (.inl (by omega)))
    · simp only [if_neg e]
      have hi := h.into j (by omega)
      exact ((h.kids j (by omega)).keep (ha.sub (by omega) (by omega))).keep (Agree.only hon (.inl (by omega)))
theorem info14 : (Tryd.prog.info? 53).map (fun i => (i.zero, i.size, i.bytes)) = some (some (.agg #[.int .i64 0, .string ⟨#[]⟩, .int .i64 0, .int .i64 0, .int .i64 0, .string ⟨#[]⟩, .slice none 0 0, .int .i64 0, .int .i64 0, .string ⟨#[]⟩, .slice none 0 0, .slice none 0 0, .slice none 0 0, .slice none 0 0]), 14, 216) := by kernel_rfl
theorem info2 : (Tryd.prog.info? 89).map (fun i => (i.zero, i.size, i.bytes)) = some (some (.agg #[.int .i64 0, .slice none 0 0]), 2, 32) := by kernel_rfl
theorem makeS (c : Nat) (h : c * 216 ≤ 281474976710656) (w : World) : ∃ cur : Array Value, cur.size = c * 14 ∧ (Instr.makeSlice 39 (.int .i64 0) (.int .i64 (c : Int))).run Tryd.prog w = .ok (.slice (some ⟨w.heap.size, 0, none⟩) 0 c) (w.alloc (.cells cur 53)) := by
  obtain ⟨i, hi, hz0, hz1, hz2⟩ := info_parts info14
  have hr := run_make (P := Tryd.prog) w 39 53 i _ Tryd.underlying39 hi hz0 .i64 .i64 0 c (Int.le_refl _) (by omega) (by rw [hz2]; omega) (by omega)
  simp only [Int.toNat_zero, Int.toNat_natCast] at hr
  exact ⟨_, by rw [size_madeCells, hz1], hr⟩
theorem makeC (c : Nat) (h : c * 32 ≤ 281474976710656) : ∃ cur : Array Value, cur.size = c * 2 ∧ ∀ w : World, (Instr.makeSlice 51 (.int .i64 0) (.int .i64 (c : Int))).run Tryd.prog w = .ok (.slice (some ⟨w.heap.size, 0, none⟩) 0 c) (w.alloc (.cells cur 89)) := by
  obtain ⟨i, hi, hz0, hz1, hz2⟩ := info_parts info2
  refine ⟨madeCells (Value.agg #[.int .i64 0, .slice none 0 0]).cells (c * i.size), by rw [size_madeCells, hz1], fun w => ?_⟩
  have hr := run_make (P := Tryd.prog) w 51 89 i _ Tryd.underlying51 hi hz0 .i64 .i64 0 c (Int.le_refl _) (by omega) (by rw [hz2]; omega) (by omega)
  simpa only [Int.toNat_zero, Int.toNat_natCast] using hr
def SOwn (l : List StD) (w : World) (e : Ending) (w' : World) : Prop := ∃ g, e = .returned (.slice (some ⟨g, 0, none⟩) l.length (l.length + 1)) ∧ StsOwn w' w.heap.size w'.heap.size g l ∧ Below w.heap.size w w'
def SOfAt (N : Nat) : Prop := ∀ (l : List StD) (A : Option Addr) (c B : Nat) (w : World), SizeOf.sizeOf l < N → B ≤ w.heap.size → StsAt w B A l → Calls Tryd.prog 39 #[.slice A l.length c] w (SOwn l w)
theorem exsAt_two {W : World} {B g : Nat} {x y : ExD} {h k : Hd} (hw : Whl W g 48 #[.int .i64 x.kind, .int .i64 x.n, .string x.name, .slice h.a x.args.length h.c, .int .i64 y.kind, .int .i64 y.n, .string y.name, .slice k.a y.args.length k.c]) (hg : g < B) (wx : ExWf x) (wy : ExWf y) (hx : ExsAt W B h.a x.args) (hy : ExsAt W B k.a y.args) : ExsAt W B (some ⟨g, 0, none⟩) [x, y] := by
  refine .mk (fun j => if j = 0 then h else k) (by simp) (fun _ => ⟨g, 0, rfl, hg, fun j hj i hi => ?_⟩) (fun j hj => ?_) fun j hj => ?_
  · rw [Nat.zero_add]
    refine (hw.cell _).trans ?_
    obtain rfl | rfl : j = 0 ∨ j = 1 := by have : j < 2 := hj; omega
    all_goals obtain rfl | rfl | rfl | rfl : i = 0 ∨ i = 1 ∨ i = 2 ∨ i = 3 := by omega
    all_goals rfl
  · obtain rfl | rfl : j = 0 ∨ j = 1 := by have : j < 2 := hj; omega
    · exact wx
    · exact wy
  · obtain rfl | rfl : j = 0 ∨ j = 1 := by have : j < 2 := hj; omega
    · exact hx
    · exact hy
theorem Only.refl (g : Nat) (w : World) : Only g w w := ⟨rfl, rfl, rfl, rfl, fun _ _ => rfl⟩
theorem Only.put {g : Nat} {w w' : World} (h : Only g w w') (i : Nat) (v : Value) : Only g w (w'.setCell ⟨g, i, none⟩ v) :=
  ⟨h.os, h.tape, h.output, by rw [← h.size]; simp, fun k hk => (Below.heap_setCell w' ⟨g, i, none⟩ v k hk).trans (h.block k hk)⟩
/-- The box of a statement whose expressions have been put in. -/
theorem eight {w1 : World} {b : Nat} {x : StD} {h : HdS} (X : Whl w1 b 53 (stC x h)) (p q : Hd) : ∃ W, W = ((((((((w1.setCell ⟨b, 3, none⟩ (.int .i64 x.a.kind)).setCell ⟨b, 4, none⟩ (.int .i64 x.a.n)).setCell ⟨b, 5, none⟩ (.string x.a.name)).setCell ⟨b, 6, none⟩ (.slice p.a x.a.args.length p.c)).setCell ⟨b, 7, none⟩ (.int .i64 x.b.kind)).setCell ⟨b, 8, none⟩ (.int .i64 x.b.n)).setCell ⟨b, 9, none⟩ (.string x.b.name)).setCell ⟨b, 10, none⟩ (.slice q.a x.b.args.length q.c)) ∧
    Whl W b 53 (stC x ⟨p, q, h.body, h.els, h.cases⟩) ∧ Only b w1 W :=
  ⟨_, rfl, by
    have H := ((((((((X.put 3 (.int .i64 x.a.kind)).put 4 (.int .i64 x.a.n)).put 5 (.string x.a.name)).put 6 (.slice p.a x.a.args.length p.c)).put 7 (.int .i64 x.b.kind)).put 8 (.int .i64 x.b.n)).put 9 (.string x.b.name)).put 10 (.slice q.a x.b.args.length q.c))
    simp only [stC, List.setIfInBounds_toArray, List.set_cons_succ, List.set_cons_zero] at H
    exact H, ((((((((Only.refl b w1).put 3 _).put 4 _).put 5 _).put 6 _).put 7 _).put 8 _).put 9 _).put 10 _⟩
theorem ExsOwn.keep2 {W W3 W4 : World} {lo hi g b : Nat} {l : List ExD} (h : ExsOwn W lo hi g l) (hb : Below W.heap.size W W3) (on : Only b W3 W4) (h1 : b < lo) (h2 : hi ≤ W.heap.size) : ExsOwn W4 lo hi g l := (h.keep (Agree.below hb h2)).keep (Agree.only on (.inl h1))
theorem StsOwn.keep2 {W W3 W4 : World} {lo hi g b : Nat} {l : List StD} (h : StsOwn W lo hi g l) (hb : Below W.heap.size W W3) (on : Only b W3 W4) (h1 : b < lo) (h2 : hi ≤ W.heap.size) : StsOwn W4 lo hi g l := (h.keep (Agree.below hb h2)).keep (Agree.only on (.inl h1))
theorem putBody {w1 : World} {b : Nat} {x : StD} {h : HdS} (X : Whl w1 b 53 (stC x h)) (p : Hd) : ∃ W, W = w1.setCell ⟨b, 11, none⟩ (.slice p.a x.body.length p.c) ∧ Whl W b 53 (stC x ⟨h.a, h.b, p, h.els, h.cases⟩) ∧ Only b w1 W :=
  ⟨_, rfl, by
    have H := X.put 11 (.slice p.a x.body.length p.c)
    simp only [stC, List.setIfInBounds_toArray, List.set_cons_succ, List.set_cons_zero] at H
    exact H, (Only.refl b w1).put 11 _⟩
theorem putEls {w1 : World} {b : Nat} {x : StD} {h : HdS} (X : Whl w1 b 53 (stC x h)) (p : Hd) : ∃ W, W = w1.setCell ⟨b, 12, none⟩ (.slice p.a x.els.length p.c) ∧ Whl W b 53 (stC x ⟨h.a, h.b, h.body, p, h.cases⟩) ∧ Only b w1 W :=
  ⟨_, rfl, by
    have H := X.put 12 (.slice p.a x.els.length p.c)
    simp only [stC, List.setIfInBounds_toArray, List.set_cons_succ, List.set_cons_zero] at H
    exact H, (Only.refl b w1).put 12 _⟩
theorem putCases {w1 : World} {b : Nat} {x : StD} {h : HdS} (X : Whl w1 b 53 (stC x h)) (p : Hd) : ∃ W, W = w1.setCell ⟨b, 13, none⟩ (.slice p.a x.cases.length p.c) ∧ Whl W b 53 (stC x ⟨h.a, h.b, h.body, h.els, p⟩) ∧ Only b w1 W :=
  ⟨_, rfl, by
    have H := X.put 13 (.slice p.a x.cases.length p.c)
    simp only [stC, List.setIfInBounds_toArray, List.set_cons_succ, List.set_cons_zero] at H
    exact H, (Only.refl b w1).put 13 _⟩
theorem Agree.trans {lo hi : Nat} {w w' w2 : World} (h : Agree lo hi w w') (k : Agree lo hi w' w2) : Agree lo hi w w2 := fun j a b => (k j a b).trans (h j a b)
theorem ExsOwn.le {w : World} {lo hi g : Nat} {l : List ExD} (h : ExsOwn w lo hi g l) : lo ≤ hi := by cases h; omega
theorem StsOwn.le {w : World} {lo hi g : Nat} {l : List StD} (h : StsOwn w lo hi g l) : lo ≤ hi := by cases h; omega
theorem onlyK3 {g : Nat} {w1 w2 : World} (h : Only g w1 w2) {b0 b1 b2 o0 o1 o2 : Nat} {v0 v1 v2 : Value} (n0 : b0 ≠ g) (n1 : b1 ≠ g) (n2 : b2 ≠ g) :
    (w1.cell? ⟨b0, o0, none⟩ = some v0 ∧ w1.cell? ⟨b1, o1, none⟩ = some v1 ∧ w1.cell? ⟨b2, o2, none⟩ = some v2) → (w2.cell? ⟨b0, o0, none⟩ = some v0 ∧ w2.cell? ⟨b1, o1, none⟩ = some v1 ∧ w2.cell? ⟨b2, o2, none⟩ = some v2) :=
  fun ⟨c0, c1, c2⟩ => ⟨(World.cell?_of_block (h.block b0 n0)).trans c0, (World.cell?_of_block (h.block b1 n1)).trans c1, (World.cell?_of_block (h.block b2 n2)).trans c2⟩
/-- wpList_append_row at a step of a region that draws its order. -/
theorem step_append_row {P : Program} (w : World) {ops : Array Oper} {o : Oper} {a : Act} {K : Act → World → Prop} {Q : Exit → Act → World → Prop} {E : Prop} (hgd : o.guard = none) (s x : Operand) (t : TypeId)
    (ho : o.op = .call { callee := .builtin .append, args := #[s, x], argTypes := #[t, t] }) (e : TypeId) (i : TypeInfo) (ht : P.underlying t = some (.slice e)) (hi : P.info? e = some i) (size : Nat) (hsz : i.size = size)
    (g n cap : Nat) (hs : a.eval s = .slice (some ⟨g, 0, none⟩) n cap) (cur : Array Value) (hg : Whl w g e cur) (ad : Addr) (m c : Nat) (news : List Value) (hx : a.eval x = .slice (some ad) m c) (hl : news.length = m * size)
    (hnews : ∀ j u, news[j]? = some u → w.cell? (ad.add j) = some u) (h1 : ∀ u ∈ news, u.oneCell' = true) (hroom : n + m ≤ cap) (hfit : (n + m) * size ≤ cur.size)
    (h : ∀ w' cur', Whl w' g e cur' → cur'.size = cur.size → cur'.toList.take ((n + m) * size) = cur.toList.take (n * size) ++ news → Only g w w' → K (a.put o.dst (.slice (some ⟨g, 0, none⟩) (n + m) cap)) w') :
    if Region.wanted o (yielded ops a.tmps) = true then Oper.wp P o a w K Q else E := by
  have hw : Region.wanted o (yielded ops a.tmps) = true := by simp [Region.wanted, hgd]
  rw [if_pos hw]
  subst hsz
  have hfit2 : n * i.size + news.length ≤ cur.size := by rw [hl, ← Nat.add_mul]; exact hfit
  have hrun := run_append_room (P := P) w t o.type e i ht hi g n cap cur hg ad m c news hl hnews h1 hroom hfit2
  have hcl : (cur.toList.take (n * i.size) ++ news ++ cur.toList.drop (n * i.size + news.length)).length = cur.size := by
    simp only [List.length_append, List.length_take, List.length_drop, Array.length_toList]; omega
  have hk := h (w.setRow g (cur.toList.take (n * i.size) ++ news ++ cur.toList.drop (n * i.size + news.length)).toArray) _ (setRow_heap w g cur _ e (0, 0) hg) (by simpa using hcl) (by
    have e1 : (n + m) * i.size = (cur.toList.take (n * i.size) ++ news).length := by
      rw [List.length_append, List.length_take, Array.length_toList, hl, Nat.add_mul]
      have : n * i.size ≤ cur.size := by omega
      omega
    rw [e1, List.take_left']
    rfl) (only_setRow _ _ _)
  unfold Oper.wp
  simp [execOp, ho, resolve, invoke, builtin, hs, hx, hrun, Result.andThen]
  simpa only [Oper.upon, List.append_assoc] using hk
theorem IvOk.more {g hi hi2 gc : Nat} {v : Iv} (o : IvOk g hi v gc) (h : hi ≤ hi2) : IvOk g hi2 v gc := { o with hi := Nat.le_trans o.hi h }
theorem SMid.snoc {w W W2 W3 : World} {l : List StD} {k : Nat} {cur cur3 : Array Value} {ch : Nat → Ch} {cb : Nat → Nat → Nat} {iv : Nat → Iv} {lc hc : Nat → Nat → Nat} {c : Ch} {cb2 lc2 hc2 : Nat → Nat} {v : Iv} (h : SMid w W l k cur ch cb iv lc hc) (hb2 : Below W.heap.size W W2)
    (o : IvOk w.heap.size W2.heap.size v c.cases) (hl : W.heap.size ≤ v.ll) (hone : StOne W2 (nthS l k) c cb2 v lc2 hc2) (hr : Whl W3 w.heap.size 53 cur3) (hs3 : cur3.size = cur.size)
    (ht : cur3.toList.take ((k + 1) * 14) = cur.toList.take (k * 14) ++ sL (nthS l k) c) (hon : Only w.heap.size W2 W3) (hb : Below w.heap.size w W3) :
    SMid w W3 l (k + 1) cur3 (fun j => if j = k then c else ch j) (fun j => if j = k then cb2 else cb j) (fun j => if j = k then v else iv j) (fun j => if j = k then lc2 else lc j) (fun j => if j = k then hc2 else hc j) := by
  refine ⟨hr, hs3.trans h.size, ?_, fun j hj => ?_, fun i j hij hj => ?_, fun j hj => ?_, hb⟩
  · rw [ht, h.done, stRow_succ]
    simp only [if_true]
    congr 1
    exact stRow_congr fun j hj => by rw [if_neg (by omega)]
  · rw [hon.size]
    by_cases e : j = k
    · subst e; simp only [if_true]; exact o
    · simp only [if_neg e]
      exact (h.ord j (by omega)).more hb2.size
  · by_cases e : j = k
    · subst e
      simp only [if_true, if_neg (show ¬ i = j by omega)]
      exact Nat.le_trans (h.ord i hij).hi hl
    · simp only [if_neg e, if_neg (show ¬ i = k by omega)]
      exact h.apart i j hij (by omega)
  · by_cases e : j = k
    · subst e
      simp only [if_true]
      exact hone.keep o (Agree.only hon (.inl o.g))
    · simp only [if_neg e]
      have hi := h.ord j (by omega)
      exact ((h.one j (by omega)).keep hi (Agree.below hb2 hi.hi)).keep hi (Agree.only hon (.inl hi.g))
set_option maxRecDepth 100000 in
set_option maxHeartbeats 16000000 in
theorem stmtsOfN (N : Nat) : SOfAt N := by
  induction N with
  | zero => intro l A c B w hN; omega
  | succ N ih =>
    intro l A c B w hN hB hk
    have IH := Lib.hid ih
    obtain ⟨hd, hcs, rows, kids, len⟩ := hk.open_
    have HR := Lib.hid (rows w.heap.size)
    have HK := Lib.hid kids
    clear ih hk rows kids
    obtain ⟨iS, hiS, hz0, hz1, hz2⟩ := info_parts info14
    obtain ⟨iC, hiC, hy0, hy1, hy2⟩ := info_parts info2
    obtain ⟨cur0, hcs0, hmk⟩ := makeS (l.length + 1) (by omega) w
    rw [show ((l.length + 1 : Nat) : Int) = (l.length : Int) + 1 by omega] at hmk
    go_enter Tryd.func39, Tryd.ntmps39
    go_wp2
    have hm0 : SMid w (w.alloc (.cells cur0 53)) l 0 cur0 (fun _ => ⟨0, 0, 0, 0, 0⟩) (fun _ _ => 0) (fun _ => ⟨0, 0, 0, 0, 0, 0, 0, 0, 0, 0⟩) (fun _ _ => 0) (fun _ _ => 0) := ⟨Whl.new _ _ _, hcs0, by simp [stRow], fun j hj => by omega, fun i j _ hj => by omega, fun j hj => by omega, below_alloc (Below.refl _ _) _⟩
    clear hmk hcs0
    go_loopw [3, 4] (fun s i W => ∃ (k : Nat) (cur : Array Value) (ch : Nat → Ch) (cb : Nat → Nat → Nat) (iv : Nat → Iv) (lc hc : Nat → Nat → Nat), k ≤ l.length ∧ i = .int .i64 k ∧ s = .slice (some ⟨w.heap.size, 0, none⟩) k (l.length + 1) ∧ Hid (SMid w W l k cur ch cb iv lc hc)) (fun _ i _ => l.length - (intOf i).toNat)
    case atStart => exact ⟨0, cur0, _, _, _, _, _, Nat.zero_le _, rfl, rfl, Lib.hid hm0⟩
    case round =>
      obtain ⟨k, cur, ch, cb, iv, lc, hc, hk, rfl, rfl, HM⟩ := hrel
      have hWl := HM.out.below.size
      have hrl := HM.out.row.lt
      have hcz := HM.out.size
      have HCZ := Lib.hid hcz
      clear hcz
      by_cases hlt : k < l.length
      · have hsz : SizeOf.sizeOf (nthS l k) < SizeOf.sizeOf l := getD_size _ hlt
        obtain ⟨b, off, rfl, c0, c1, c2, c3, c4, c5, c6, c7, c8, c9, c10, c11, c12, c13⟩ := HR.out wr ⟨HM.out.below.mono hB, fun b t cs _ _ h => h.below' HM.out.below⟩ k hlt
        have lb : b < wr.heap.size := World.block_lt_of_cell? _ _ c0
        have HIN := Lib.hid (HK.out k hlt)
        have sb := body_size (nthS l k)
        have se := els_size (nthS l k)
        have sc := cases_size (nthS l k)
        obtain ⟨x, hx⟩ : ∃ x, x = nthS l k := ⟨_, rfl⟩
        obtain ⟨h, hh⟩ : ∃ h, h = hd k := ⟨_, rfl⟩
        obtain ⟨q, hq⟩ : ∃ q, q = hcs k := ⟨_, rfl⟩
        rw [← hx] at c0 c1 c2 c3 c4 c5 c6 c7 c8 c9 c10 c11 c12 c13 hsz sb se sc HIN
        simp only [← hh] at c3 c4 c5 c6 c7 c8 c9 c10 c11 c12 c13 HIN
        rw [← hq] at HIN
        have HX := Lib.hid hx
        clear hx hh hq
        have B1 := below_alloc (below_alloc HM.out.below (.cells (stC x h) 53)) (.cells #[.int .i64 x.a.kind, .int .i64 x.a.n, .string x.a.name, .slice h.a.a x.a.args.length h.a.c, .int .i64 x.b.kind, .int .i64 x.b.n, .string x.b.name, .slice h.b.a x.b.args.length h.b.c] 48)
        have HE := exprsOfN _ [x.a, x.b] (some ⟨wr.heap.size + 1, 0, none⟩) 2 _ ((wr.alloc (.cells (stC x h) 53)).alloc (.cells #[.int .i64 x.a.kind, .int .i64 x.a.n, .string x.a.name, .slice h.a.a x.a.args.length h.a.c, .int .i64 x.b.kind, .int .i64 x.b.n, .string x.b.name, .slice h.b.a x.b.args.length h.b.c] 48)) (Nat.lt_succ_self _) (Nat.le_refl _)
          (exsAt_two (Whl.newAt (by simp) _ _) (by simp) HIN.out.wf.a HIN.out.wf.b ((HIN.out.ea.keep B1 hB).more (by have := B1.size; omega)) ((HIN.out.eb.keep B1 hB).more (by have := B1.size; omega)))
        have HEE := Lib.hid HE
        clear HE
        go_upto_region 9 with (go_at_call 67; go_must (refine HEE.out.mono ?_; rintro e w1 ⟨g2, rfl, ho1, hb1⟩; have hb1s := hb1.size; obtain @⟨_, _, _, _, ch2, lo2, hi2, low2, lt2, row2, into2, apart2, kids2⟩ := ho1; have hrow : Whl w1 g2 48 #[.int .i64 x.a.kind, .int .i64 x.a.n, .string x.a.name, .slice (some ⟨ch2 0, 0, none⟩) x.a.args.length (x.a.args.length + 1), .int .i64 x.b.kind, .int .i64 x.b.n, .string x.b.name, .slice (some ⟨ch2 1, 0, none⟩) x.b.args.length (x.b.args.length + 1), .int .i64 (-77), .int .i64 0, .string ⟨#[]⟩, .slice none 0 0] := row2; have X1 := ((Whl.new wr 53 (stC x h)).alloc (.cells #[.int .i64 x.a.kind, .int .i64 x.a.n, .string x.a.name, .slice h.a.a x.a.args.length h.a.c, .int .i64 x.b.kind, .int .i64 x.b.n, .string x.b.name, .slice h.b.a x.b.args.length h.b.c] 48)).below' hb1; obtain ⟨d0, d1, d2, d3, d4, d5, d6, d7, d8, d9, d10, d11, d12, d13⟩ := X1.cSt; obtain ⟨r0, r1, r2, r3⟩ := (show w1.cell? ⟨g2, 0, none⟩ = some _ ∧ w1.cell? ⟨g2, 1, none⟩ = some _ ∧ w1.cell? ⟨g2, 2, none⟩ = some _ ∧ w1.cell? ⟨g2, 3, none⟩ = some _ from ⟨hrow.cell 0, hrow.cell 1, hrow.cell 2, hrow.cell 3⟩); obtain ⟨r4, r5, r6, r7⟩ := (show w1.cell? ⟨g2, 4, none⟩ = some _ ∧ w1.cell? ⟨g2, 5, none⟩ = some _ ∧ w1.cell? ⟨g2, 6, none⟩ = some _ ∧ w1.cell? ⟨g2, 7, none⟩ = some _ from ⟨hrow.cell 4, hrow.cell 5, hrow.cell 6, hrow.cell 7⟩); have lx1 := X1.lt; have lr1 := hrow.lt; have lg2 : wr.heap.size < g2 := (by simp only [World.size_alloc] at low2; omega); have ng2 : g2 ≠ wr.heap.size := (by omega); have z3 := X1.frozen 3; have z4 := X1.frozen 4; have z5 := X1.frozen 5; have z6 := X1.frozen 6; have z7 := X1.frozen 7; have z8 := X1.frozen 8; have z9 := X1.frozen 9; have z10 := X1.frozen 10; have z11 := X1.frozen 11; have z12 := X1.frozen 12; have z13 := X1.frozen 13))
        obtain ⟨W2, hW2, X2, on2⟩ := eight X1 ⟨some ⟨ch2 0, 0, none⟩, x.a.args.length + 1⟩ ⟨some ⟨ch2 1, 0, none⟩, x.b.args.length + 1⟩
        rw [← hW2]
        have s0 := Nat.le_of_eq on2.size
        have s0' := Nat.le_of_eq on2.size.symm
        simp only [World.size_alloc] at hb1s low2
        have i0 := into2 0 (by simp)
        have i1 := into2 1 (by simp)
        have p01 := apart2 0 1 (by simp) (by simp)
        have E0 : ExsOwn W2 (lo2 0) (hi2 0) (ch2 0) x.a.args := (kids2 0 (by simp)).keep (Agree.only on2 (.inl (by omega)))
        have E1 : ExsOwn W2 (lo2 1) (hi2 1) (ch2 1) x.b.args := (kids2 1 (by simp)).keep (Agree.only on2 (.inl (by omega)))
        have BW2 : Below wr.heap.size wr W2 := on2.below (below_step (below_alloc (below_alloc (Below.refl _ _) _) _) hb1) (Nat.le_refl _)
        clear hW2 hb1 hrow row2 kids2 on2 X1 d0 d1 d2 d3 d4 d5 d6 d7 d8 d9 d10 d11 d12 d13 r0 r1 r2 r3 r4 r5 r6 r7 z3 z4 z5 z6 z7 z8 z9 z10 z11 z12 z13 HEE
        have lx2 := X2.lt
        have e11 : W2.cell? ⟨wr.heap.size, 11, none⟩ = some (.slice h.body.a x.body.length h.body.c) := X2.cell 11
        have z11 := X2.frozen 11
        have Bw2 := below_step HM.out.below BW2
        have HC1 := Lib.hid (IH.out x.body h.body.a h.body.c B W2 (by omega) (by omega) (HIN.out.body.keep Bw2 hB))
        go_upto_region 10 with (go_at_call 39; go_must (refine HC1.out.mono ?_; rintro e w3 ⟨g3, rfl, ho3, hb3⟩; have hb3s := hb3.size; have X3 := X2.below' hb3; obtain ⟨hcc3, hff3⟩ := bcell hb3; have lx3 := X3.lt))
        obtain ⟨W4, hW4, X4, on4⟩ := putBody X3 ⟨some ⟨g3, 0, none⟩, x.body.length + 1⟩
        rw [← hW4]
        have s4 := Nat.le_of_eq on4.size
        have s4' := Nat.le_of_eq on4.size.symm
        have E40 := E0.keep2 hb3 on4 (by omega) (by omega)
        have E41 := E1.keep2 hb3 on4 (by omega) (by omega)
        have S4 := ho3.keep (Agree.only on4 (.inl lx2))
        have BW4 : Below wr.heap.size wr W4 := on4.below (below_step BW2 hb3) (Nat.le_refl _)
        clear hW4 hb3 on4 ho3 hcc3 hff3 e11 z11 HC1 Bw2 E0 E1 BW2 X2 X3
        have lx4 := X4.lt
        have e12 : W4.cell? ⟨wr.heap.size, 12, none⟩ = some (.slice h.els.a x.els.length h.els.c) := X4.cell 12
        have z12 := X4.frozen 12
        have Bw4 := below_step HM.out.below BW4
        have HC2 := Lib.hid (IH.out x.els h.els.a h.els.c B W4 (by omega) (by omega) (HIN.out.els.keep Bw4 hB))
        go_upto_region 11 with (go_at_call 39; go_must (refine HC2.out.mono ?_; rintro e w5 ⟨g5, rfl, ho5, hb5⟩; have hb5s := hb5.size; have X5 := X4.below' hb5; obtain ⟨hcc5, hff5⟩ := bcell hb5; have lx5 := X5.lt))
        obtain ⟨W6, hW6, X6, on6⟩ := putEls X5 ⟨some ⟨g5, 0, none⟩, x.els.length + 1⟩
        rw [← hW6]
        have s6 := Nat.le_of_eq on6.size
        have s6' := Nat.le_of_eq on6.size.symm
        have E60 := E40.keep2 hb5 on6 (by omega) (by omega)
        have E61 := E41.keep2 hb5 on6 (by omega) (by omega)
        have S6 := S4.keep2 hb5 on6 (by omega) (by omega)
        have T6 := ho5.keep (Agree.only on6 (.inl lx4))
        have BW6 : Below wr.heap.size wr W6 := on6.below (below_step BW4 hb5) (Nat.le_refl _)
        clear hW6 hb5 on6 ho5 hcc5 hff5 e12 z12 HC2 Bw4 E40 E41 S4 BW4 X4 X5
        obtain ⟨V, rfl⟩ : ∃ V, V = wr := ⟨_, rfl⟩
        have lx6 := X6.lt
        have e13 : W6.cell? ⟨V.heap.size, 13, none⟩ = some (.slice h.cases.a x.cases.length h.cases.c) := X6.cell 13
        have Bw6 := below_step HM.out.below BW6
        have HIN6 := Lib.hid (HIN.out.below Bw6 hB)
        have clen := HIN.out.clen
        obtain ⟨curC, hcC, hmk⟩ := makeC (x.cases.length + 1) (by omega)
        rw [show ((x.cases.length + 1 : Nat) : Int) = (x.cases.length : Int) + 1 by omega] at hmk
        go_wp2
        have hc0 : CMid W6 (W6.alloc (.cells curC 89)) x.cases 0 curC (fun _ => 0) (fun _ => 0) (fun _ => 0) := ⟨Whl.new _ _ _, hcC, by simp [caRow], fun j hj => by omega, fun i j _ hj => by omega, fun j hj => by omega, below_alloc (Below.refl _ _) _⟩
        clear hmk hcC
        go_loopw [7, 8] (fun s i W => ∃ (j : Nat) (cuC : Array Value) (chC lo' hi' : Nat → Nat), j ≤ x.cases.length ∧ i = .int .i64 j ∧ s = .slice (some ⟨W6.heap.size, 0, none⟩) j (x.cases.length + 1) ∧ Hid (CMid W6 W x.cases j cuC chC lo' hi')) (fun _ i _ => x.cases.length - (intOf i).toNat)
        case atStart => exact ⟨0, curC, _, _, _, Nat.zero_le _, rfl, rfl, Lib.hid hc0⟩
        case round =>
          obtain ⟨j, cuC, chC, lo', hi', hjk, rfl, rfl, HC⟩ := hrel
          clear hc0
          have hWc := HC.out.below.size
          have hrc := HC.out.row.lt
          have HCC := Lib.hid HC.out.size
          have e13' := cellK HC.out.below e13
          have Bwr := HIN6.out.below HC.out.below (by omega)
          by_cases hjl : j < x.cases.length
          · obtain ⟨b2, off2, hca, p0, p1⟩ := (Bwr.crow.ca hjl)
            have hcz := cbody_size (nthC x.cases j)
            have hcy : SizeOf.sizeOf (nthC x.cases j) < SizeOf.sizeOf x.cases := getD_size _ hjl
            have HK3 := Lib.hid (IH.out (nthC x.cases j).body (q j).a (q j).c B wr.drew (by omega) (by show B ≤ wr.heap.size; omega) ((Bwr.cbody j hjl).keep ((Below.refl wr.heap.size _).drew) (by omega)))
            rw [hca] at e13'
            have HCA := Lib.hid hca
            clear hca
            have n0 : V.heap.size ≠ W6.heap.size := by omega
            have n1 : b2 ≠ W6.heap.size := by
              have h1 := (HIN6.out.crow.ca hjl)
              obtain ⟨b3, off3, e3, q0, _⟩ := h1
              rw [HCA.out] at e3
              have e4 : b2 = b3 := by simpa using congrArg (fun o => (o.map fun a : Addr => a.block)) e3
              rw [e4]
              exact Nat.ne_of_lt (World.block_lt_of_cell? _ _ q0)
            have l1 : b2 < wr.heap.size := World.block_lt_of_cell? _ _ p0
            obtain ⟨y, hy⟩ : ∃ y, y = nthC x.cases j := ⟨_, rfl⟩
            rw [← hy] at p0 p1 hcz hcy HK3
            have HY := Lib.hid hy
            clear hy
            go_upto_region 15 with fail
            go_region_held3 (fun w' => w'.cell? ⟨V.heap.size, 13, none⟩ = some (.slice (some ⟨b2, off2, none⟩) x.cases.length h.cases.c) ∧ w'.cell? ⟨b2, off2 + j * 2, none⟩ = some (.int .i64 y.n) ∧ w'.cell? ⟨b2, off2 + j * 2 + 1, none⟩ = some (.slice (q j).a y.body.length (q j).c))
              (first | exact keep3 (by assumption) (by assumption) | exact keep3 ((Below.refl w8.heap.size w8).alloc (Nat.le_refl _) _) (by assumption) | exact onlyK3 (by assumption) n0 n1 n1 (by assumption) | (go_simp; done))
              (first
                | (go_at_call 39; refine HK3.out.mono ?_; rintro e w8 ⟨g8, rfl, ho8, hb8⟩; have R8 := HC.out.row.drew.below' hb8)
                | (have _g := hb8; refine step_append_row _ (by rfl) (.tmp 57) (.tmp 72) 51 (by rfl) 89 iC Tryd.underlying51 hiC 2 hy1 W6.heap.size j (x.cases.length + 1) (by rfl) cuC (R8.alloc _) ⟨w8.heap.size, 0, none⟩ 1 1 (cL y g8) (by rfl) rfl (World.news_of_block (Whl.newAt (by simp) 89 (cL y g8).toArray)) (by intro u hu; simp [cL] at hu; rcases hu with rfl | rfl <;> rfl) (by omega) (by have := HCC.out; omega) ?_; intro w9 cu9 hw9 hs9 ht9 hon9))
            have hbW : Below wr.heap.size wr (w8.alloc (.cells (cL y g8).toArray 89)) := below_alloc (below_step ((Below.refl wr.heap.size _).drew) hb8) _
            have hks : StsOwn (w8.alloc (.cells (cL y g8).toArray 89)) wr.heap.size w8.heap.size g8 (nthC x.cases j).body := by
              rw [← HY.out]
              exact ho8.keep (Agree.below ((Below.refl _ _).alloc (Nat.le_refl _) _) (Nat.le_refl _))
            have hfin := HC.out.snoc (Agree.below hbW (Nat.le_refl _)) hbW.size hks (Nat.le_refl _) (by simp) hw9 hs9 (by rw [← HY.out]; exact ht9) hon9 (hon9.below (below_step HC.out.below hbW) (Nat.le_refl _)) hrc
            go_wp2
            refine ⟨⟨j + 1, cu9, _, _, _, by omega, by go_num, rfl, Lib.hid hfin⟩, by simp [intOf]; omega⟩
          · obtain rfl : j = x.cases.length := by omega
            have n0 : V.heap.size ≠ W6.heap.size := by omega
            go_upto_region 17 with (at_builtin; go_must (refine wpList_append_row _ rfl _ _ 51 rfl 89 iC Tryd.underlying51 hiC 2 hy1 W6.heap.size x.cases.length (x.cases.length + 1) rfl cuC (HC.out.row.alloc _) ⟨wr.heap.size, 0, none⟩ 1 1 endCa rfl rfl (World.news_of_block (Whl.newAt rfl 89 endCa.toArray)) (by intro u hu; simp [endCa] at hu; rcases hu with rfl | rfl <;> rfl) (by omega) (by have := HCC.out; omega) ?_; intro w9 cu9 hw9 hs9 ht9 hon9))
            have BWe : Below W6.heap.size W6 (wr.alloc (.cells endCa.toArray 89)) := below_alloc HC.out.below _
            have X9 := hon9.whl (X6.below' BWe) n0
            have e9 : w9.cell? ⟨V.heap.size, 13, none⟩ = some (.slice h.cases.a x.cases.length h.cases.c) := X9.cell 13
            have z9 := X9.frozen 13
            have lx9 := X9.lt
            go_upto_region 18 with fail
            obtain ⟨W10, hW10, X10, on10⟩ := putCases X9 ⟨some ⟨W6.heap.size, 0, none⟩, x.cases.length + 1⟩
            rw [← hW10]
            have BV10 : Below V.heap.size V W10 := on10.below (hon9.below (below_step BW6 BWe) (by omega)) (Nat.le_refl _)
            have R10 := HM.out.row.below' BV10
            have lx10 := X10.lt
            have s10 := Nat.le_of_eq on10.size
            have s10' := Nat.le_of_eq on10.size.symm
            have s9 := Nat.le_of_eq hon9.size
            have s9' := Nat.le_of_eq hon9.size.symm
            rw [World.size_alloc] at s9 s9'
            obtain ⟨d0, d1, d2, d3, d4, d5, d6, d7, d8, d9, d10, d11, d12, d13⟩ := X10.cSt
            (try simp only at d6 d10 d11 d12 d13)
            clear hW10 e9 z9 e13 e13'
            go_wp2_with (at_builtin; go_must (refine wpList_append_row _ rfl _ _ 39 rfl 53 iS Tryd.underlying39 hiS 14 hz1 w.heap.size k (l.length + 1) rfl cur (R10.alloc _) ⟨W10.heap.size, 0, none⟩ 1 1 (sL x ⟨ch2 0, ch2 1, g3, g5, W6.heap.size⟩) rfl rfl (World.news_of_block (Whl.newAt rfl 53 (sL x ⟨ch2 0, ch2 1, g3, g5, W6.heap.size⟩).toArray)) (by intro u hu; simp [sL, stC, hdOf] at hu; rcases hu with rfl | rfl | rfl | rfl | rfl | rfl | rfl | rfl | rfl | rfl | rfl | rfl | rfl | rfl <;> rfl) (by omega) (by have := HCZ.out; omega) ?_; intro w11 cu11 hw11 hs11 ht11 hon11))
            have hal : Below W10.heap.size W10 (W10.alloc (.cells (sL x ⟨ch2 0, ch2 1, g3, g5, W6.heap.size⟩).toArray 53)) := (Below.refl _ _).alloc (Nat.le_refl _) _
            have AG : ∀ lo hi, V.heap.size < lo → hi ≤ W6.heap.size → Agree lo hi W6 (W10.alloc (.cells (sL x ⟨ch2 0, ch2 1, g3, g5, W6.heap.size⟩).toArray 53)) := fun lo hi h1 h2 =>
              (((Agree.below BWe h2).trans (Agree.only hon9 (.inr h2))).trans (Agree.only on10 (.inl h1))).trans (Agree.below hal (by omega))
            have AC : ∀ lo hi, W6.heap.size < lo → hi ≤ wr.heap.size → Agree lo hi wr (W10.alloc (.cells (sL x ⟨ch2 0, ch2 1, g3, g5, W6.heap.size⟩).toArray 53)) := fun lo hi h1 h2 =>
              (((Agree.below ((Below.refl _ _).alloc (Nat.le_refl _) _) h2).trans (Agree.only hon9 (.inl h1))).trans (Agree.only on10 (.inl (by omega)))).trans (Agree.below hal (by omega))
            have hrow : Whl (W10.alloc (.cells (sL x ⟨ch2 0, ch2 1, g3, g5, W6.heap.size⟩).toArray 53)) W6.heap.size 89 (caRow x.cases chC x.cases.length ++ endCa).toArray := by
              have e : cu9 = (caRow x.cases chC x.cases.length ++ endCa).toArray := by
                apply Array.toList_inj.1
                rw [← HC.out.done, ← ht9, List.take_of_length_le (by rw [Array.length_toList, hs9, HCC.out]; exact Nat.le_refl _)]
              rw [← e]
              exact (on10.whl hw9 (Ne.symm n0)).alloc _
            have hone : StOne (W10.alloc (.cells (sL x ⟨ch2 0, ch2 1, g3, g5, W6.heap.size⟩).toArray 53)) (nthS l k) ⟨ch2 0, ch2 1, g3, g5, W6.heap.size⟩ chC ⟨V.heap.size, lo2 0, hi2 0, lo2 1, hi2 1, W2.heap.size, w3.heap.size, W4.heap.size, w5.heap.size, wr.heap.size⟩ lo' hi' := by
              rw [← HX.out]
              exact ⟨E60.keep (AG _ _ (by omega) (by omega)), E61.keep (AG _ _ (by omega) (by omega)), S6.keep (AG _ _ (by omega) (by omega)), T6.keep (AG _ _ (by omega) (by omega)), hrow, HC.out.into, HC.out.apart, fun j hj => (HC.out.kids j hj).keep (AC _ _ (HC.out.into j hj).1 (HC.out.into j hj).2)⟩
            have hok : IvOk w.heap.size (W10.alloc (.cells (sL x ⟨ch2 0, ch2 1, g3, g5, W6.heap.size⟩).toArray 53)).heap.size ⟨V.heap.size, lo2 0, hi2 0, lo2 1, hi2 1, W2.heap.size, w3.heap.size, W4.heap.size, w5.heap.size, wr.heap.size⟩ W6.heap.size := by
              have q0 := E60.le
              have q1 := E61.le
              have q2 := S6.le
              have q3 := T6.le
              refine ⟨?_, ?_, ?_, ?_, ?_, ?_, ?_, ?_, ?_, ?_, ?_, ?_⟩
              all_goals simp only [World.size_alloc]
              all_goals omega
            have hfin := HM.out.snoc (below_step BV10 hal) hok (Nat.le_refl _) hone hw11 hs11 (by rw [← HX.out]; exact ht11) hon11 (hon11.below (below_step HM.out.below (below_step BV10 hal)) (Nat.le_refl _))
            refine ⟨⟨k + 1, cu11, _, _, _, _, _, by omega, by go_num, rfl, Lib.hid hfin⟩, by simp [intOf]; omega⟩
      · obtain rfl : k = l.length := by omega
        go_wp2_with (at_builtin; go_must (refine wpList_append_row _ rfl _ _ 39 rfl 53 iS Tryd.underlying39 hiS 14 hz1 w.heap.size l.length (l.length + 1) rfl cur (HM.out.row.alloc _) ⟨wr.heap.size, 0, none⟩ 1 1 endSt rfl rfl (World.news_of_block (Whl.newAt rfl 53 endSt.toArray)) (by intro u hu; simp [endSt] at hu; rcases hu with rfl | rfl | rfl | rfl | rfl | rfl | rfl | rfl | rfl | rfl | rfl | rfl | rfl | rfl <;> rfl) (by omega) (by have := HCZ.out; omega) ?_; intro w3 cur3 hw3 hs3 ht3 hon3))
        go_ret
        have hbA : Below wr.heap.size wr (wr.alloc (.cells endSt.toArray 53)) := below_alloc (Below.refl _ _) _
        have hsz3 : wr.heap.size ≤ w3.heap.size := by rw [hon3.size, World.size_alloc]; omega
        have HO : ∀ j, j < l.length → StOne w3 (nthS l j) (ch j) (cb j) (iv j) (lc j) (hc j) := fun j hj =>
          ((HM.out.one j hj).keep (HM.out.ord j hj) (Agree.below hbA (HM.out.ord j hj).hi)).keep (HM.out.ord j hj) (Agree.only hon3 (.inl (HM.out.ord j hj).g))
        refine ⟨w.heap.size, rfl, .mk ch cb iv lc hc (Nat.le_refl _) hw3.lt ?_ (fun j hj => (HM.out.ord j hj).more hsz3) HM.out.apart (fun j hj => (HO j hj).ea) (fun j hj => (HO j hj).eb) (fun j hj => (HO j hj).body) (fun j hj => (HO j hj).els) (fun j hj => (HO j hj).crow) (fun j hj => (HO j hj).cinto) (fun j hj => (HO j hj).capart) (fun j hj => (HO j hj).cbody), hon3.below (below_step HM.out.below hbA) (Nat.le_refl _)⟩
        have e : cur3 = (stRow l ch l.length ++ endSt).toArray := by
          apply Array.toList_inj.1
          rw [← HM.out.done, ← ht3, List.take_of_length_le (by rw [Array.length_toList, hs3, HCZ.out]; exact Nat.le_refl _)]
        rw [← e]; exact hw3
end Go.Proofs.YtdddppmfeoebgaaDoor

/-
  Layer 2 (tree): functions and programs in blocks of their own; append of a slice that came in, nil or not, where there is room.
-/
namespace Go.Proofs.YtdddppmfeoebgaaDoor
open Go.RowKit
set_option linter.unusedSimpArgs false
set_option linter.unusedVariables false
def rowsL (n sz : Nat) (val : Nat → Nat → Value) : List Value := (List.range (n * sz)).map fun i => val (i / sz) (i % sz)
theorem rowsL_len (n sz : Nat) (val : Nat → Nat → Value) : (rowsL n sz val).length = n * sz := by simp [rowsL]
theorem rowsL_get {n sz : Nat} {val : Nat → Nat → Value} {k j : Nat} (hk : k < n) (hj : j < sz) : (rowsL n sz val)[k * sz + j]? = some (val k j) := by
  have h : k * sz + j < n * sz := by
    have : (k + 1) * sz ≤ n * sz := Nat.mul_le_mul_right _ hk
    rw [Nat.add_mul, Nat.one_mul] at this; omega
  simp only [rowsL, List.getElem?_map, List.getElem?_range h, Option.map_some, Option.some.injEq]
  rw [Nat.mul_comm k sz, Nat.mul_add_div (by omega), Nat.mul_add_mod, Nat.div_eq_of_lt hj, Nat.mod_eq_of_lt hj, Nat.add_zero]
theorem rows_in {w : World} {B : Nat} {A : Option Addr} {n sz : Nat} {val : Nat → Nat → Value} (h : RowsAt w B A n sz val) (hz : 0 < sz) :
    (A = none ∧ n = 0) ∨ ∃ ad, A = some ad ∧ ∀ j u, (rowsL n sz val)[j]? = some u → w.cell? (ad.add j) = some u := by
  rcases Nat.eq_zero_or_pos n with rfl | hp
  · cases A with
    | none => exact .inl ⟨rfl, rfl⟩
    | some ad => exact .inr ⟨ad, rfl, fun j u hu => by simp [rowsL] at hu⟩
  · obtain ⟨b, off, rfl, hb, hc⟩ := h hp
    refine .inr ⟨_, rfl, fun j u hu => ?_⟩
    have hj : j < n * sz := by
      have := (List.getElem?_eq_some_iff.1 hu).1
      rwa [rowsL_len] at this
    have e : (rowsL n sz val)[j / sz * sz + j % sz]? = some (val (j / sz) (j % sz)) := rowsL_get ((Nat.div_lt_iff_lt_mul hz).2 hj) (Nat.mod_lt _ hz)
    rw [show j / sz * sz + j % sz = j by rw [Nat.mul_comm]; exact Nat.div_add_mod j sz] at e
    rw [hu] at e
    have hadd : (⟨b, off, none⟩ : Addr).add j = ⟨b, off + j, none⟩ := by simp [Addr.add]
    rw [hadd, Option.some.inj e, show off + j = off + j / sz * sz + j % sz by rw [Nat.add_assoc, Nat.mul_comm (j / sz)]; rw [Nat.div_add_mod]]
    exact hc _ ((Nat.div_lt_iff_lt_mul hz).2 hj) _ (Nat.mod_lt _ hz)
theorem run_append_nil0 {P : Program} (w : World) (t ty e : TypeId) (i : TypeInfo) (ht : P.underlying t = some (.slice e)) (hi : P.info? e = some i) (g n cap c : Nat) (hroom : n ≤ cap) :
    (Builtin.append_ #[t, t] ty #[.slice (some ⟨g, 0, none⟩) n cap, .slice none 0 c]).run P w = .ok (.slice (some ⟨g, 0, none⟩) n cap) w := by
  simp [Builtin.append_, run_underlying ht, sizeOf, typeInfo, hi, Builtin.lenOf, Builtin.firstCells, hroom, storeCells]
/-- append, where there is room, of a slice that came in, nil or not. -/
theorem wpList_append_rowA {P : Program} (w : World) {ops : Array Oper} {rest : List Oper} {o : Oper} {a : Act} {Q : Exit → Act → World → Prop} (hgd : o.guard = none) (s x : Operand) (t : TypeId)
    (ho : o.op = .call { callee := .builtin .append, args := #[s, x], argTypes := #[t, t] }) (e : TypeId) (i : TypeInfo) (ht : P.underlying t = some (.slice e)) (hi : P.info? e = some i) (size : Nat) (hsz : i.size = size) (hz : 0 < size)
    (g n cap : Nat) (hs : a.eval s = .slice (some ⟨g, 0, none⟩) n cap) (cur : Array Value) (hg : Whl w g e cur) (B : Nat) (A : Option Addr) (m c : Nat) (val : Nat → Nat → Value) (hx : a.eval x = .slice A m c) (hsrc : RowsAt w B A m size val)
    (h1 : ∀ k j, (val k j).oneCell' = true) (hroom : n + m ≤ cap) (hfit : (n + m) * size ≤ cur.size)
    (h : ∀ w' cur', Whl w' g e cur' → cur'.size = cur.size → cur'.toList.take ((n + m) * size) = cur.toList.take (n * size) ++ rowsL m size val → Only g w w' → wpList P ops Q rest (a.put o.dst (.slice (some ⟨g, 0, none⟩) (n + m) cap)) w') : wpList P ops Q (o :: rest) a w := by
  rcases rows_in hsrc hz with ⟨rfl, rfl⟩ | ⟨ad, rfl, hc⟩
  · have hrun := run_append_nil0 (P := P) w t o.type e i ht hi g n cap c (by omega)
    have hk := h w cur hg rfl (by simp [rowsL]) (Only.refl g w)
    refine wpList_plain hgd fun K hK => ?_
    unfold Oper.wp
    simp [execOp, ho, resolve, invoke, builtin, hs, hx, hrun, Result.andThen]
    exact hK _ _ (by simpa using hk)
  · exact wpList_append_row w hgd s x t ho e i ht hi size hsz g n cap hs cur hg ad m c (rowsL m size val) hx (rowsL_len _ _ _) hc (fun u hu => by
      obtain ⟨i, _, rfl⟩ := List.mem_map.1 hu
      exact h1 _ _) hroom hfit h
def endPa : List Value := [.string ⟨#[63]⟩, .int .i64 0, .int .i64 0]
def endWi : List Value := [.int .i64 (-77)]
def endFn : List Value := [.string ⟨#[63]⟩, .slice none 0 0, .slice none 0 0]
def fL (f : FnD) (gp gb : Nat) : List Value := [.string f.name, .slice (some ⟨gp, 0, none⟩) f.params.length (f.params.length + 1), .slice (some ⟨gb, 0, none⟩) f.body.length (f.body.length + 1)]
def paL (l : List PaD) : List Value := rowsL l.length 3 fun k => paV (nthP l k)
def wiL (l : List Int) : List Value := rowsL l.length 1 fun k _ => .int .i64 (l.getD k 0)
def fnRow (l : List FnD) (gp gb : Nat → Nat) (n : Nat) : List Value := (List.range n).flatMap fun j => fL (nthF l j) (gp j) (gb j)
theorem fnRow_succ (l : List FnD) (gp gb : Nat → Nat) (n : Nat) : fnRow l gp gb (n + 1) = fnRow l gp gb n ++ fL (nthF l n) (gp n) (gb n) := by simp [fnRow, List.range_succ]
theorem fnRow_congr {l : List FnD} {gp gb gp2 gb2 : Nat → Nat} : ∀ {n : Nat}, (∀ j, j < n → gp j = gp2 j ∧ gb j = gb2 j) → fnRow l gp gb n = fnRow l gp2 gb2 n
  | 0, _ => rfl
  | n + 1, h => by rw [fnRow_succ, fnRow_succ, fnRow_congr (n := n) fun j hj => h j (by omega), (h n (by omega)).1, (h n (by omega)).2]
theorem fnRow_len (l : List FnD) (gp gb : Nat → Nat) : ∀ n, (fnRow l gp gb n).length = n * 3
  | 0 => rfl
  | n + 1 => by rw [fnRow_succ, List.length_append, fnRow_len l gp gb n]; simp [fL]; omega
theorem fnRow_get {l : List FnD} {gp gb : Nat → Nat} : ∀ {n k j : Nat}, k < n → j < 3 → (fnRow l gp gb n)[k * 3 + j]? = some (fnV (nthF l k) ⟨⟨some ⟨gp k, 0, none⟩, (nthF l k).params.length + 1⟩, ⟨some ⟨gb k, 0, none⟩, (nthF l k).body.length + 1⟩⟩ j)
  | n + 1, k, j, hk, hj => by
    rw [fnRow_succ]
    by_cases e : k = n
    · subst e
      rw [List.getElem?_append_right (by rw [fnRow_len]; omega), fnRow_len, show k * 3 + j - k * 3 = j by omega]
      obtain rfl | rfl | rfl : j = 0 ∨ j = 1 ∨ j = 2 := by omega
      all_goals rfl
    · rw [List.getElem?_append_left (by rw [fnRow_len]; omega)]
      exact fnRow_get (by omega) hj
/-- A function whose parameters and body lie in blocks of their own. -/
structure FnOne (W : World) (f : FnD) (gp gb lb hb : Nat) : Prop where
  prow : Whl W gp 50 (paL f.params ++ endPa).toArray
  body : StsOwn W lb hb gb f.body
/-- Functions so far: gf is their row's block. -/
structure FMid (w W : World) (gf : Nat) (l : List FnD) (k : Nat) (cur : Array Value) (gp gb lb hb : Nat → Nat) : Prop where
  row : Whl W gf 41 cur
  size : cur.size = (l.length + 1) * 3
  done : cur.toList.take (k * 3) = fnRow l gp gb k
  into : ∀ j, j < k → gf < gp j ∧ gp j < lb j ∧ hb j ≤ W.heap.size
  apart : ∀ i j, i < j → j < k → hb i ≤ gp j
  one : ∀ j, j < k → FnOne W (nthF l j) (gp j) (gb j) (lb j) (hb j)
  below : Below w.heap.size w W
theorem FnOne.keep {W W' : World} {f : FnD} {gp gb lb hb lo hi : Nat} (h : FnOne W f gp gb lb hb) (ha : Agree lo hi W W') (h1 : lo ≤ gp) (h2 : gp < lb) (h3 : hb ≤ hi) : FnOne W' f gp gb lb hb := by
  have hle := h.body.le
  exact ⟨(ha _ h1 (by omega)).trans h.prow, h.body.keep (ha.sub (by omega) h3)⟩
theorem FMid.snoc {w W W2 W3 : World} {gf : Nat} {l : List FnD} {k p b lo hi : Nat} {cur cur3 : Array Value} {gp gb lb hb : Nat → Nat} (h : FMid w W gf l k cur gp gb lb hb) (hb2 : Below W.heap.size W W2)
    (h1 : W.heap.size ≤ p) (h2 : p < lo) (h3 : hi ≤ W2.heap.size) (hone : FnOne W2 (nthF l k) p b lo hi) (hgf : gf < W.heap.size) (hr : Whl W3 gf 41 cur3) (hs3 : cur3.size = cur.size)
    (ht : cur3.toList.take ((k + 1) * 3) = cur.toList.take (k * 3) ++ fL (nthF l k) p b) (hon : Only gf W2 W3) (hb3 : Below w.heap.size w W3) :
    FMid w W3 gf l (k + 1) cur3 (fun j => if j = k then p else gp j) (fun j => if j = k then b else gb j) (fun j => if j = k then lo else lb j) (fun j => if j = k then hi else hb j) := by
  refine ⟨hr, hs3.trans h.size, ?_, fun j hj => ?_, fun i j hij hj => ?_, fun j hj => ?_, hb3⟩
  · rw [ht, h.done, fnRow_succ]
    simp only [if_true]
    congr 1
    exact fnRow_congr fun j hj => by rw [if_neg (by omega), if_neg (by omega)]; exact ⟨rfl, rfl⟩
  · rw [hon.size]
    by_cases e : j = k
    · subst e; simp only [if_true]; omega
    · simp only [if_neg e]
      have := h.into j (by omega)
      have := hb2.size
      omega
  · by_cases e : j = k
    · subst e
      simp only [if_true, if_neg (show ¬ i = j by omega)]
      have := h.into i (by omega)
      omega
    · simp only [if_neg e, if_neg (show ¬ i = k by omega)]
      exact h.apart i j hij (by omega)
  · by_cases e : j = k
    · subst e
      simp only [if_true]
      exact hone.keep (lo := gf + 1) (Agree.only hon (.inl (by omega))) (by omega) h2 (Nat.le_refl _)
    · simp only [if_neg e]
      have hi := h.into j (by omega)
      exact ((h.one j (by omega)).keep (lo := gf + 1) (Agree.below hb2 hi.2.2) (by omega) hi.2.1 (Nat.le_refl _)).keep (lo := gf + 1) (Agree.only hon (.inl (by omega))) (by omega) hi.2.1 (Nat.le_refl _)
/-- A program in blocks of its own, from lo on. -/
structure PrOwn (W : World) (lo : Nat) (p : PrD) (gw gf : Nat) (gp gb lb hb : Nat → Nat) : Prop where
  low : lo ≤ gw
  lt : gw < gf
  wrow : Whl W gw 2 (wiL p.widen ++ endWi).toArray
  frow : Whl W gf 41 (fnRow p.funcs gp gb p.funcs.length ++ endFn).toArray
  into : ∀ j, j < p.funcs.length → gf < gp j ∧ gp j < lb j ∧ hb j ≤ W.heap.size
  apart : ∀ i j, i < j → j < p.funcs.length → hb i ≤ gp j
  one : ∀ j, j < p.funcs.length → FnOne W (nthF p.funcs j) (gp j) (gb j) (lb j) (hb j)
theorem PrOwn.below {W W' : World} {lo : Nat} {p : PrD} {gw gf : Nat} {gp gb lb hb : Nat → Nat} (h : PrOwn W lo p gw gf gp gb lb hb) (k : Below W.heap.size W W') : PrOwn W' lo p gw gf gp gb lb hb :=
  ⟨h.low, h.lt, h.wrow.below' k, h.frow.below' k, fun j hj => by have := h.into j hj; have := k.size; omega, h.apart, fun j hj => (h.one j hj).keep (Agree.below k (h.into j hj).2.2) (Nat.le_refl _) (h.into j hj).2.1 (Nat.le_refl _)⟩
/-- What the copy holds is what stood there. -/
theorem PrOwn.ok {W : World} {lo : Nat} {p : PrD} {gw gf : Nat} {gp gb lb hb : Nat → Nat} (h : PrOwn W lo p gw gf gp gb lb hb) {w0 : World} {B0 : Nat} {wa fa : Option Addr} (h0 : PrOk w0 B0 p wa fa) : PrOk W W.heap.size p (some ⟨gw, 0, none⟩) (some ⟨gf, 0, none⟩) := by
  obtain ⟨wlen, _, wwf, ⟨hd, flen, _, each⟩⟩ := h0
  refine ⟨wlen, fun _ => ⟨gw, 0, rfl, h.wrow.lt, fun k hk j hj => ?_⟩, wwf, .mk (fun k => ⟨⟨some ⟨gp k, 0, none⟩, (nthF p.funcs k).params.length + 1⟩, ⟨some ⟨gb k, 0, none⟩, (nthF p.funcs k).body.length + 1⟩⟩) flen (fun _ => ⟨gf, 0, rfl, h.frow.lt, fun k hk j hj => ?_⟩) fun k hk => ?_⟩
  · rw [Nat.zero_add]
    refine (h.wrow.cell _).trans ?_
    rw [List.getElem?_toArray, List.getElem?_append_left (by rw [wiL, rowsL_len]; omega), wiL]
    exact rowsL_get hk hj
  · rw [Nat.zero_add]
    refine (h.frow.cell _).trans ?_
    rw [List.getElem?_toArray, List.getElem?_append_left (by rw [fnRow_len]; omega)]
    exact fnRow_get hk hj
  · have e := each k hk
    have o := h.one k hk
    refine ⟨e.name, e.plen, fun _ => ⟨gp k, 0, rfl, o.prow.lt, fun i hi j hj => ?_⟩, e.pwf, o.body.at_ e.body⟩
    rw [Nat.zero_add]
    refine (o.prow.cell _).trans ?_
    rw [List.getElem?_toArray, List.getElem?_append_left (by rw [paL, rowsL_len]; omega), paL]
    exact rowsL_get hi hj
theorem info3f : (Tryd.prog.info? 41).map (fun i => (i.zero, i.size, i.bytes)) = some (some (.agg #[.string ⟨#[]⟩, .slice none 0 0, .slice none 0 0]), 3, 64) := by kernel_rfl
theorem info3p : (Tryd.prog.info? 50).map (fun i => (i.zero, i.size, i.bytes)) = some (some (.agg #[.string ⟨#[]⟩, .int .i64 0, .int .i64 0]), 3, 32) := by kernel_rfl
theorem info1i : (Tryd.prog.info? 2).map (fun i => (i.zero, i.size, i.bytes)) = some (some (.int .i64 0), 1, 8) := by kernel_rfl
theorem makeF (c : Nat) (h : c * 64 ≤ 281474976710656) : ∃ cur : Array Value, cur.size = c * 3 ∧ ∀ w : World, (Instr.makeSlice 24 (.int .i64 0) (.int .i64 (c : Int))).run Tryd.prog w = .ok (.slice (some ⟨w.heap.size, 0, none⟩) 0 c) (w.alloc (.cells cur 41)) := by
  obtain ⟨i, hi, hz0, hz1, hz2⟩ := info_parts info3f
  refine ⟨madeCells (Value.cells (.agg #[.string ⟨#[]⟩, .slice none 0 0, .slice none 0 0])) (c * i.size), by rw [size_madeCells, hz1], fun w => ?_⟩
  have hr := run_make (P := Tryd.prog) w 24 41 i _ Tryd.underlying24 hi hz0 .i64 .i64 0 c (Int.le_refl _) (by omega) (by rw [hz2]; omega) (by omega)
  simpa only [Int.toNat_zero, Int.toNat_natCast] using hr
theorem makeP (c : Nat) (h : c * 32 ≤ 281474976710656) : ∃ cur : Array Value, cur.size = c * 3 ∧ ∀ w : World, (Instr.makeSlice 38 (.int .i64 0) (.int .i64 (c : Int))).run Tryd.prog w = .ok (.slice (some ⟨w.heap.size, 0, none⟩) 0 c) (w.alloc (.cells cur 50)) := by
  obtain ⟨i, hi, hz0, hz1, hz2⟩ := info_parts info3p
  refine ⟨madeCells (Value.cells (.agg #[.string ⟨#[]⟩, .int .i64 0, .int .i64 0])) (c * i.size), by rw [size_madeCells, hz1], fun w => ?_⟩
  have hr := run_make (P := Tryd.prog) w 38 50 i _ Tryd.underlying38 hi hz0 .i64 .i64 0 c (Int.le_refl _) (by omega) (by rw [hz2]; omega) (by omega)
  simpa only [Int.toNat_zero, Int.toNat_natCast] using hr
theorem makeI (c : Nat) (h : c * 8 ≤ 281474976710656) : ∃ cur : Array Value, cur.size = c * 1 ∧ ∀ w : World, (Instr.makeSlice 23 (.int .i64 0) (.int .i64 (c : Int))).run Tryd.prog w = .ok (.slice (some ⟨w.heap.size, 0, none⟩) 0 c) (w.alloc (.cells cur 2)) := by
  obtain ⟨i, hi, hz0, hz1, hz2⟩ := info_parts info1i
  refine ⟨madeCells (Value.cells (.int .i64 0)) (c * i.size), by rw [size_madeCells, hz1], fun w => ?_⟩
  have hr := run_make (P := Tryd.prog) w 23 2 i _ Tryd.underlying23 hi hz0 .i64 .i64 0 c (Int.le_refl _) (by omega) (by rw [hz2]; omega) (by omega)
  simpa only [Int.toNat_zero, Int.toNat_natCast] using hr
end Go.Proofs.YtdddppmfeoebgaaDoor

/-
  Layer 2 (tree): the walk of Copy.
-/
namespace Go.Proofs.YtdddppmfeoebgaaDoor
open Go.RowKit
set_option linter.unusedSimpArgs false
set_option linter.unusedVariables false
theorem four (w : World) (c1 c2 c3 c4 : Array Value) (t t4 : TypeId) : ∃ (V : World) (g1 g2 g3 : Nat), V = ((((w.alloc (.cells c1 t)).alloc (.cells c2 t)).alloc (.cells c3 t)).alloc (.cells c4 t4)) ∧ g1 = w.heap.size + 1 ∧ g2 = w.heap.size + 1 + 1 ∧ g3 = w.heap.size + 1 + 1 + 1 ∧
    Whl V w.heap.size t c1 ∧ Whl V g1 t c2 ∧ Whl V g2 t c3 ∧ Whl V g3 t4 c4 ∧ Below w.heap.size w V :=
  ⟨_, _, _, _, rfl, rfl, rfl, rfl, (((Whl.new w t c1).alloc _).alloc _).alloc _, ((Whl.newAt (by simp) t c2).alloc _).alloc _, (Whl.newAt (by simp) t c3).alloc _, Whl.newAt (by simp) t4 c4, below_alloc (below_alloc (below_alloc (below_alloc (Below.refl _ _) _) _) _) _⟩
set_option maxRecDepth 100000 in
set_option maxHeartbeats 16000000 in
theorem copyR (p : PrD) (wa fa : Option Addr) (uc vc B : Nat) (w : World) (hB : B ≤ w.heap.size) (hp : PrOk w B p wa fa) :
    Calls Tryd.prog 19 #[prV p wa fa uc vc] w fun e w' => ∃ gw gf gp gb lb hb, e = .returned (prV p (some ⟨gw, 0, none⟩) (some ⟨gf, 0, none⟩) (p.widen.length + 1) (p.funcs.length + 1)) ∧ PrOwn w' w.heap.size p gw gf gp gb lb hb ∧ Below w.heap.size w w' := by
  obtain ⟨hd, rows, each, flen⟩ := hp.funcs.open_
  have HW := Lib.hid hp.widen
  have wlen := hp.wlen
  have HR := Lib.hid rows
  have HE := Lib.hid each
  clear rows each hp
  obtain ⟨iI, hiI, hz0, hz1, hz2⟩ := info_parts info1i
  obtain ⟨iF, hiF, hy0, hy1, hy2⟩ := info_parts info3f
  obtain ⟨iP, hiP, hx0, hx1, hx2⟩ := info_parts info3p
  obtain ⟨curI, hcI, hmk⟩ := makeI (p.widen.length + 1) (by omega)
  rw [show ((p.widen.length + 1 : Nat) : Int) = (p.widen.length : Int) + 1 by omega] at hmk
  have HCI := Lib.hid hcI
  clear hcI
  go_enter Tryd.func19, Tryd.ntmps19
  go_upto_region 3 with fail
  obtain ⟨V, g1, g2, g3, hV, e1, e2, e3, X1, X2, X3, XI, BV⟩ := four w #[.slice wa p.widen.length uc, .slice fa p.funcs.length vc] #[.slice none 0 0, .slice none 0 0] #[.slice none 0 0, .slice none 0 0] curI 26 2
  rw [← e3, ← e2, ← e1, ← hV]
  have l1 : w.heap.size < g1 := by omega
  have l2 : g1 < g2 := by omega
  have l3 : g2 < g3 := by omega
  have l4 := XI.lt
  clear e1 e2 e3 hV hmk
  obtain ⟨x0, x1⟩ := X1.c2
  go_upto_region 4 with (at_builtin; go_must (refine wpList_append_rowA _ rfl _ _ 23 rfl 2 iI Tryd.underlying23 hiI 1 hz1 (by decide) g3 0 (p.widen.length + 1) rfl curI XI B wa p.widen.length uc _ rfl (HW.out.below BV hB) (fun _ _ => rfl) (by omega) (by have := HCI.out; omega) ?_; intro V2 cu2 hw2 hs2 ht2 hon2))
  have BV2 := hon2.below BV (show w.heap.size ≤ g3 by omega)
  have Y1 := hon2.whl X1 (show w.heap.size ≠ g3 by omega)
  have Y2 := hon2.whl X2 (show g1 ≠ g3 by omega)
  have Y3 := hon2.whl X3 (show g2 ≠ g3 by omega)
  have s2 := Nat.le_of_eq hon2.size
  have s2' := Nat.le_of_eq hon2.size.symm
  clear x0 x1 X1 X2 X3 XI hon2
  go_upto_region 5 with (at_builtin; go_must (refine wpList_append_row _ rfl _ _ 23 rfl 2 iI Tryd.underlying23 hiI 1 hz1 g3 _ (p.widen.length + 1) rfl cu2 (hw2.alloc _) ⟨V2.heap.size, 0, none⟩ 1 1 endWi rfl rfl (World.news_of_block (Whl.newAt rfl 2 endWi.toArray)) (by intro u hu; simp [endWi] at hu; subst hu; rfl) (by omega) (by have := HCI.out; omega) ?_; intro V3 cu3 hw3 hs3 ht3 hon3))
  have R3 : Whl V3 g3 2 (wiL p.widen ++ endWi).toArray := by
    have e : cu3 = (wiL p.widen ++ endWi).toArray := by
      apply Array.toList_inj.1
      rw [Nat.zero_add, Nat.zero_mul, List.take_zero, List.nil_append] at ht2
      rw [wiL, ← ht2, ← ht3, List.take_of_length_le (by rw [Array.length_toList, hs3, hs2, HCI.out]; exact Nat.le_refl _)]
    rw [← e]; exact hw3
  have hal : Below V2.heap.size V2 (V2.alloc (.cells endWi.toArray 2)) := (Below.refl _ _).alloc (Nat.le_refl _) _
  have BV3 := hon3.below (below_step BV2 hal) (show w.heap.size ≤ g3 by omega)
  have Z1 := hon3.whl (Y1.alloc _) (show w.heap.size ≠ g3 by omega)
  have Z2 := hon3.whl (Y2.alloc _) (show g1 ≠ g3 by omega)
  have Z3 := hon3.whl (Y3.alloc _) (show g2 ≠ g3 by omega)
  have l5 := hw3.lt
  clear Y1 Y2 Y3 hon3 hal hw2 ht2 hs2 ht3 hs3 hw3
  obtain ⟨x0, x1⟩ := Z1.c2
  have z0 := Z3.frozen 0
  obtain ⟨y0, y1⟩ := Z3.c2
  go_upto_region 6 with fail
  obtain ⟨V4, hV4, Z4, on4⟩ : ∃ W, W = V3.setCell ⟨g2, 0, none⟩ (.slice (some ⟨g3, 0, none⟩) p.widen.length (p.widen.length + 1)) ∧ Whl W g2 26 #[.slice (some ⟨g3, 0, none⟩) p.widen.length (p.widen.length + 1), .slice none 0 0] ∧ Only g2 V3 W := ⟨_, rfl, Z3.put 0 _, (Only.refl g2 V3).put 0 _⟩
  rw [← hV4]
  have BV4 := on4.below BV3 (show w.heap.size ≤ g2 by omega)
  have A1 := on4.whl Z1 (show w.heap.size ≠ g2 by omega)
  have A2 := on4.whl Z2 (show g1 ≠ g2 by omega)
  have A3 := on4.whl R3 (show g3 ≠ g2 by omega)
  have s4 := Nat.le_of_eq on4.size
  have s4' := Nat.le_of_eq on4.size.symm
  clear x0 x1 y0 y1 z0 Z1 Z2 Z3 R3 on4 hV4
  obtain ⟨x0, x1⟩ := A1.c2
  have l6 := A3.lt
  obtain ⟨curF, hcF, hmk⟩ := makeF (p.funcs.length + 1) (by omega)
  rw [show ((p.funcs.length + 1 : Nat) : Int) = (p.funcs.length : Int) + 1 by omega] at hmk
  go_wp2
  have hm0 : FMid V4 (V4.alloc (.cells curF 41)) V4.heap.size p.funcs 0 curF (fun _ => 0) (fun _ => 0) (fun _ => 0) (fun _ => 0) := ⟨Whl.new _ _ _, hcF, by simp [fnRow], fun j hj => by omega, fun i j _ hj => by omega, fun j hj => by omega, below_alloc (Below.refl _ _) _⟩
  clear hmk hcF
  go_loopw [5, 6] (fun s i W => ∃ (k : Nat) (cur : Array Value) (gp gb lb hb : Nat → Nat), k ≤ p.funcs.length ∧ i = .int .i64 k ∧ s = .slice (some ⟨V4.heap.size, 0, none⟩) k (p.funcs.length + 1) ∧ Hid (FMid V4 W V4.heap.size p.funcs k cur gp gb lb hb)) (fun _ i _ => p.funcs.length - (intOf i).toNat)
  case atStart => exact ⟨0, curF, _, _, _, _, Nat.zero_le _, rfl, rfl, Lib.hid hm0⟩
  case round =>
    obtain ⟨k, cur, gp, gb, lb, hb, hk, rfl, rfl, HM⟩ := hrel
    clear hm0
    have hrl := HM.out.row.lt
    have hWl := HM.out.below.size
    have HCZ := Lib.hid HM.out.size
    have BW := below_step BV4 HM.out.below
    have x1' := cellK HM.out.below x1
    by_cases hlt : k < p.funcs.length
    · obtain ⟨b, off, hfa, c0, c1, c2⟩ := HR.out wr (BW.mono hB) k hlt
      have HF := Lib.hid ((HE.out k hlt).keep BW hB)
      rw [hfa] at x1'
      clear hfa
      have lb0 : b < wr.heap.size := World.block_lt_of_cell? _ _ c0
      obtain ⟨f, hf⟩ : ∃ f, f = nthF p.funcs k := ⟨_, rfl⟩
      rw [← hf] at c0 c1 c2 HF
      obtain ⟨h, hh⟩ : ∃ h, h = hd k := ⟨_, rfl⟩
      simp only [← hh] at c1 c2 HF
      have HX := Lib.hid hf
      clear hf hh
      have plen := HF.out.plen
      obtain ⟨curP, hcP, hmkP⟩ := makeP (f.params.length + 1) (by omega)
      rw [show ((f.params.length + 1 : Nat) : Int) = (f.params.length : Int) + 1 by omega] at hmkP
      have HCP := Lib.hid hcP
      clear hcP
      go_upto_region 12 with fail
      obtain ⟨U, gq, hU, eq, XB, XP, BU⟩ : ∃ (U : World) (g : Nat), U = ((wr.alloc (.cells #[.string f.name, .slice h.params.a f.params.length h.params.c, .slice h.body.a f.body.length h.body.c] 41)).alloc (.cells curP 50)) ∧ g = wr.heap.size + 1 ∧
          Whl U wr.heap.size 41 #[.string f.name, .slice h.params.a f.params.length h.params.c, .slice h.body.a f.body.length h.body.c] ∧ Whl U g 50 curP ∧ Below wr.heap.size wr U :=
        ⟨_, _, rfl, rfl, (Whl.new wr 41 _).alloc _, Whl.newAt (by simp) 50 curP, below_alloc (below_alloc (Below.refl _ _) _) _⟩
      rw [← eq, ← hU]
      have m0 : wr.heap.size < gq := by omega
      have m1 := XP.lt
      clear hU eq hmkP c0 c1 c2
      obtain ⟨b0, b1, b2⟩ := XB.c3
      go_upto_region 13 with (at_builtin; go_must (refine wpList_append_rowA _ rfl _ _ 38 rfl 50 iP Tryd.underlying38 hiP 3 hx1 (by decide) gq 0 (f.params.length + 1) rfl curP XP B h.params.a f.params.length h.params.c _ rfl (HF.out.params.below BU (by omega)) (fun k j => by match j with | 0 => rfl | 1 => rfl | _ + 2 => rfl) (by omega) (by have := HCP.out; omega) ?_; intro U2 cu2 hw2 hs2 ht2 hon2))
      have BU2 := hon2.below BU (show wr.heap.size ≤ gq by omega)
      have XB2 := hon2.whl XB (show wr.heap.size ≠ gq by omega)
      have s5 := Nat.le_of_eq hon2.size
      have s5' := Nat.le_of_eq hon2.size.symm
      clear b0 b1 b2 XB XP hon2
      obtain ⟨b0, b1, b2⟩ := XB2.c3
      go_upto_region 14 with (at_builtin; go_must (refine wpList_append_row _ rfl _ _ 38 rfl 50 iP Tryd.underlying38 hiP 3 hx1 gq f.params.length (f.params.length + 1) rfl cu2 (hw2.alloc _) ⟨U2.heap.size, 0, none⟩ 1 1 endPa rfl rfl (World.news_of_block (Whl.newAt rfl 50 endPa.toArray)) (by intro u hu; simp [endPa] at hu; rcases hu with rfl | rfl | rfl <;> rfl) (by omega) (by have := HCP.out; omega) ?_; intro U3 cu3 hw3 hs3 ht3 hon3))
      have RP : Whl U3 gq 50 (paL f.params ++ endPa).toArray := by
        have e : cu3 = (paL f.params ++ endPa).toArray := by
          apply Array.toList_inj.1
          rw [Nat.zero_add, Nat.zero_mul, List.take_zero, List.nil_append] at ht2
          rw [paL, ← ht2, ← ht3, List.take_of_length_le (by rw [Array.length_toList, hs3, hs2, HCP.out]; exact Nat.le_refl _)]
        rw [← e]; exact hw3
      have hal : Below U2.heap.size U2 (U2.alloc (.cells endPa.toArray 50)) := (Below.refl _ _).alloc (Nat.le_refl _) _
      have BU3 := hon3.below (below_step BU2 hal) (show wr.heap.size ≤ gq by omega)
      have XB3 := hon3.whl (XB2.alloc _) (show wr.heap.size ≠ gq by omega)
      have m3 := RP.lt
      clear b0 b1 b2 XB2 hon3 hal hw2 ht2 hs2 ht3 hs3 hw3
      obtain ⟨b0, b1, b2⟩ := XB3.c3
      have z1 := XB3.frozen 1
      go_upto_region 15 with fail
      obtain ⟨U4, hU4, XB4, on4⟩ : ∃ W, W = U3.setCell ⟨wr.heap.size, 1, none⟩ (.slice (some ⟨gq, 0, none⟩) f.params.length (f.params.length + 1)) ∧ Whl W wr.heap.size 41 #[.string f.name, .slice (some ⟨gq, 0, none⟩) f.params.length (f.params.length + 1), .slice h.body.a f.body.length h.body.c] ∧ Only wr.heap.size U3 W := ⟨_, rfl, XB3.put 1 _, (Only.refl _ U3).put 1 _⟩
      rw [← hU4]
      have BU4 := on4.below BU3 (Nat.le_refl _)
      have RP4 := on4.whl RP (show gq ≠ wr.heap.size by omega)
      have m4 := RP4.lt
      clear b0 b1 b2 z1 XB3 RP on4 hU4
      obtain ⟨b0, b1, b2⟩ := XB4.c3
      have z2 := XB4.frozen 2
      have lx4 := XB4.lt
      have HC1 := Lib.hid (stmtsOfN _ f.body h.body.a h.body.c B U4 (Nat.lt_succ_self _) (by omega) (HF.out.body.keep BU4 (by omega)))
      go_upto_region 16 with (go_at_call 39; go_must (refine HC1.out.mono ?_; rintro e w5 ⟨g5, rfl, ho5, hb5⟩; have hb5s := hb5.size; have XB5 := XB4.below' hb5; obtain ⟨hcc5, hff5⟩ := bcell hb5; have lx5 := XB5.lt))
      obtain ⟨U6, hU6, XB6, on6⟩ : ∃ W, W = w5.setCell ⟨wr.heap.size, 2, none⟩ (.slice (some ⟨g5, 0, none⟩) f.body.length (f.body.length + 1)) ∧ Whl W wr.heap.size 41 #[.string f.name, .slice (some ⟨gq, 0, none⟩) f.params.length (f.params.length + 1), .slice (some ⟨g5, 0, none⟩) f.body.length (f.body.length + 1)] ∧ Only wr.heap.size w5 W := ⟨_, rfl, XB5.put 2 _, (Only.refl _ w5).put 2 _⟩
      rw [← hU6]
      have BU6 := on6.below (below_step BU4 hb5) (Nat.le_refl _)
      have RP6 := on6.whl (RP4.below' hb5) (show gq ≠ wr.heap.size by omega)
      have S6 := ho5.keep (Agree.only on6 (.inl lx4))
      have RW6 := HM.out.row.below' BU6
      have s6 := Nat.le_of_eq on6.size
      have s6' := Nat.le_of_eq on6.size.symm
      clear hcc5 hff5 b0 b1 b2 z2 XB4 XB5 HC1 ho5 hb5 hU6
      obtain ⟨b0, b1, b2⟩ := XB6.c3
      have lx6 := XB6.lt
      go_wp2_with (at_builtin; go_must (refine wpList_append_row _ rfl _ _ 24 rfl 41 iF Tryd.underlying24 hiF 3 hy1 V4.heap.size k (p.funcs.length + 1) rfl cur (RW6.alloc _) ⟨U6.heap.size, 0, none⟩ 1 1 (fL f gq g5) rfl rfl (World.news_of_block (Whl.newAt rfl 41 (fL f gq g5).toArray)) (by intro u hu; simp [fL] at hu; rcases hu with rfl | rfl | rfl <;> rfl) (by omega) (by have := HCZ.out; omega) ?_; intro w7 cu7 hw7 hs7 ht7 hon7))
      have hal : Below U6.heap.size U6 (U6.alloc (.cells (fL f gq g5).toArray 41)) := (Below.refl _ _).alloc (Nat.le_refl _) _
      have hone : FnOne (U6.alloc (.cells (fL f gq g5).toArray 41)) (nthF p.funcs k) gq g5 U4.heap.size w5.heap.size := by
        rw [← HX.out]
        exact ⟨RP6.alloc _, S6.keep (Agree.below hal (by omega))⟩
      have hfin := HM.out.snoc (below_step BU6 hal) (by omega) m4 (by rw [World.size_alloc]; omega) hone hrl hw7 hs7 (by rw [← HX.out]; exact ht7) hon7 (hon7.below (below_step HM.out.below (below_step BU6 hal)) (Nat.le_refl _))
      refine ⟨⟨k + 1, cu7, _, _, _, _, by omega, by go_num, rfl, Lib.hid hfin⟩, by simp [intOf]; omega⟩
    · obtain rfl : k = p.funcs.length := by omega
      go_upto_region 18 with (at_builtin; go_must (refine wpList_append_row _ rfl _ _ 24 rfl 41 iF Tryd.underlying24 hiF 3 hy1 V4.heap.size p.funcs.length (p.funcs.length + 1) rfl cur (HM.out.row.alloc _) ⟨wr.heap.size, 0, none⟩ 1 1 endFn rfl rfl (World.news_of_block (Whl.newAt rfl 41 endFn.toArray)) (by intro u hu; simp [endFn] at hu; rcases hu with rfl | rfl | rfl <;> rfl) (by omega) (by have := HCZ.out; omega) ?_; intro w9 cu9 hw9 hs9 ht9 hon9))
      have RF : Whl w9 V4.heap.size 41 (fnRow p.funcs gp gb p.funcs.length ++ endFn).toArray := by
        have e : cu9 = (fnRow p.funcs gp gb p.funcs.length ++ endFn).toArray := by
          apply Array.toList_inj.1
          rw [← HM.out.done, ← ht9, List.take_of_length_le (by rw [Array.length_toList, hs9, HCZ.out]; exact Nat.le_refl _)]
        rw [← e]; exact hw9
      have hal : Below wr.heap.size wr (wr.alloc (.cells endFn.toArray 41)) := (Below.refl _ _).alloc (Nat.le_refl _) _
      have BK := below_step HM.out.below hal
      have C1 := hon9.whl (A1.below' BK) (show w.heap.size ≠ V4.heap.size by omega)
      have C2 := hon9.whl (A2.below' BK) (show g1 ≠ V4.heap.size by omega)
      have C3 := hon9.whl (A3.below' BK) (show g3 ≠ V4.heap.size by omega)
      have C4 := hon9.whl (Z4.below' BK) (show g2 ≠ V4.heap.size by omega)
      have B9 := hon9.below (below_step BV4 BK) (show w.heap.size ≤ V4.heap.size by omega)
      have H9 : ∀ j, j < p.funcs.length → FnOne w9 (nthF p.funcs j) (gp j) (gb j) (lb j) (hb j) := fun j hj =>
        ((HM.out.one j hj).keep (lo := V4.heap.size + 1) (Agree.below hal (HM.out.into j hj).2.2) (HM.out.into j hj).1 (HM.out.into j hj).2.1 (Nat.le_refl _)).keep (lo := V4.heap.size + 1) (Agree.only hon9 (.inl (Nat.lt_succ_self _))) (HM.out.into j hj).1 (HM.out.into j hj).2.1 (Nat.le_refl _)
      have s9 : wr.heap.size ≤ w9.heap.size := by rw [hon9.size, World.size_alloc]; omega
      clear x0 x1 x1' hw9 ht9 hs9 hon9 hal BK
      obtain ⟨x0, x1⟩ := C1.c2
      obtain ⟨y0, y1⟩ := C4.c2
      have z1 := C4.frozen 1
      have v0 := C2.frozen 0
      have v1 := C2.frozen 1
      obtain ⟨t0, t1⟩ := C2.c2
      go_wp2
      obtain ⟨W1, h1, on1⟩ : ∃ W, W = w9.setCell ⟨g2, 1, none⟩ (.slice (some ⟨V4.heap.size, 0, none⟩) p.funcs.length (p.funcs.length + 1)) ∧ Only g2 w9 W := ⟨_, rfl, (Only.refl _ w9).put 1 _⟩
      rw [← h1]
      have D2 := on1.whl C2 (show g1 ≠ g2 by omega)
      obtain ⟨W2, h2, on2, E2⟩ : ∃ W, W = (W1.setCell ⟨g1, 0, none⟩ (.slice (some ⟨g3, 0, none⟩) p.widen.length (p.widen.length + 1))).setCell ⟨g1, 1, none⟩ (.slice (some ⟨V4.heap.size, 0, none⟩) p.funcs.length (p.funcs.length + 1)) ∧ Only g1 W1 W ∧ Whl W g1 26 #[.slice (some ⟨g3, 0, none⟩) p.widen.length (p.widen.length + 1), .slice (some ⟨V4.heap.size, 0, none⟩) p.funcs.length (p.funcs.length + 1)] := ⟨_, rfl, ((Only.refl _ W1).put 0 _).put 1 _, (D2.put 0 _).put 1 _⟩
      rw [← h2]
      clear h1 h2 x0 x1 y0 y1 z1 v0 v1 t0 t1
      obtain ⟨r0, r1⟩ := E2.c2
      have q1 := Nat.le_of_eq on1.size.symm
      have q2 := Nat.le_of_eq on2.size.symm
      refine ret_of ?_ rfl
      refine ⟨prV p (some ⟨g3, 0, none⟩) (some ⟨V4.heap.size, 0, none⟩) (p.widen.length + 1) (p.funcs.length + 1), by simp [results, Tryd.results19, go_sem, r0, r1], g3, V4.heap.size, gp, gb, lb, hb, rfl,
        ⟨by omega, l6, on2.whl (on1.whl C3 (show g3 ≠ g2 by omega)) (show g3 ≠ g1 by omega), on2.whl (on1.whl RF (show V4.heap.size ≠ g2 by omega)) (show V4.heap.size ≠ g1 by omega), fun j hj => by have := HM.out.into j hj; omega, HM.out.apart,
          fun j hj => ((H9 j hj).keep (lo := V4.heap.size + 1) (Agree.only on1 (.inl (by omega))) (HM.out.into j hj).1 (HM.out.into j hj).2.1 (Nat.le_refl _)).keep (lo := V4.heap.size + 1) (Agree.only on2 (.inl (by omega))) (HM.out.into j hj).1 (HM.out.into j hj).2.1 (Nat.le_refl _)⟩,
        on2.below (on1.below B9 (by omega)) (by omega)⟩
end Go.Proofs.YtdddppmfeoebgaaDoor
