/-
  Layer 11 (pack): reading a module's bytes, in plain Lean; what lies in memory while they are read.
-/
import Derived.Test.YtjacfeohpofhpaaDoorBytes
import Derived.Laws.BitsLemmas
import Derived.Lib.HexFns2
import Derived.Lib.BufferOwn
import Derived.Test.YtjacfeohpofhpaaDoorKeep
import Derived.Deep.RegionLaw
import Derived.LoopTactic
import Derived.Deep.RegionHeldLaw
namespace Go.Proofs.YtjacfeohpofhpaaDoor
open Go.RowKit
set_option linter.unusedSimpArgs false
set_option linter.unusedVariables false
/-- How far was read; or what is wrong first, and where. -/
inductive St where
  | ok (a : Nat)
  | bad (e p : Int)
def leN : List UInt8 → Nat
  | [] => 0
  | b :: l => b.toNat + 256 * leN l
theorem leN_lt (l : List UInt8) : leN l < 256 ^ l.length := by
  induction l with
  | nil => simp [leN]
  | cons b l ih =>
    have := b.toNat_lt
    simp only [leN, List.length_cons, Nat.pow_succ]
    omega
theorem leN_app (l m : List UInt8) : leN (l ++ m) = leN l + 256 ^ l.length * leN m := by
  induction l with
  | nil => simp [leN]
  | cons b l ih => simp only [List.cons_append, leN, ih, List.length_cons, Nat.pow_succ]; rw [Nat.mul_add, Nat.add_assoc, ← Nat.mul_assoc, Nat.mul_comm 256 (256 ^ l.length)]
theorem leN_zero (n : Nat) : leN (List.replicate n 0) = 0 := by
  induction n with
  | zero => rfl
  | succ n ih => simp [List.replicate_succ, leN, ih]
def failS : St → Int → Int → St
  | .ok _, e, p => .bad e p
  | .bad x y, _, _ => .bad x y
def takeS (L : List UInt8) : St → Nat → St
  | .ok a, n => if a + n ≤ L.length then .ok (a + n) else .bad 6 L.length
  | .bad x y, _ => .bad x y
def readL (L : List UInt8) : St → Nat → List UInt8
  | .ok a, n => if a + n ≤ L.length then (L.drop a).take n else List.replicate n 0
  | .bad _ _, n => List.replicate n 0
theorem readL_len (L : List UInt8) (s : St) (n : Nat) : (readL L s n).length = n := by
  cases s with
  | ok a => simp only [readL]; split <;> simp <;> omega
  | bad x y => simp [readL]
def natS (L : List UInt8) (s : St) (k : Nat) : Nat := leN (readL L s k)
theorem natS_lt (L : List UInt8) (s : St) (k : Nat) : natS L s k < 256 ^ k := by
  have := leN_lt (readL L s k)
  rwa [readL_len] at this
def cntS (L : List UInt8) (s : St) (k most : Nat) (e : Int) : St :=
  match takeS L s k with
  | .ok a => if most < natS L s k then .bad e ((a : Int) - k) else .ok a
  | .bad x y => .bad x y
def cntV (L : List UInt8) (s : St) (k most : Nat) : Nat :=
  match takeS L s k with
  | .ok _ => if most < natS L s k then 0 else natS L s k
  | .bad _ _ => 0
theorem cntV_le (L : List UInt8) (s : St) (k most : Nat) : cntV L s k most ≤ most := by
  unfold cntV
  split
  · split <;> omega
  · omega
def i64 (n : Nat) : Int := IntKind.i64.wrap (n : Int)
theorem i64_small {n : Nat} (h : n < 9223372036854775808) : i64 n = n := by rw [i64, IntKind.wrap_i64]; omega
/-- Is the state told by these three numbers? -/
def StIs : St → Int → Int → Int → Prop
  | .ok n, a, e, _ => a = n ∧ e = 0 ∧ n ≤ 1099511627776
  | .bad x y, _, e, p => e = x ∧ p = y ∧ x ≠ 0
theorem bitsToNat {n : Nat} (hn : n < 18446744073709551616) : (BitVec.ofInt 64 (IntKind.i64.wrap (n : Int))).toNat = n := by
  rw [BitVec.toNat_ofInt, IntKind.wrap_i64]
  have : ((2 ^ 64 : Nat) : Int) = 18446744073709551616 := by decide
  rw [this]
  omega
theorem or64a (x y : Int) : Go.bits .or .i64 x y = IntKind.i64.wrap ((BitVec.ofInt 64 x ||| BitVec.ofInt 64 y).toNat : Int) := rfl
theorem or64b {a b : Nat} (ha : a < 18446744073709551616) (hb : b < 18446744073709551616) : Go.bits .or .i64 (IntKind.i64.wrap (a : Int)) (IntKind.i64.wrap (b : Int)) = IntKind.i64.wrap ((a ||| b : Nat) : Int) := by
  rw [or64a, BitVec.toNat_or, bitsToNat ha, bitsToNat hb]
theorem or64c {A B k : Nat} (hA : A < 2 ^ k) : A ||| (2 ^ k * B) = A + 2 ^ k * B := by
  rw [Nat.or_comm, ← Nat.two_pow_add_eq_or_of_lt hA, Nat.add_comm]
theorem pow8 (i : Nat) : (256 : Nat) ^ i = 2 ^ (8 * i) := by rw [Nat.pow_mul]
theorem or64 {A B i : Nat} (hA : A < 256 ^ i) (hB : B < 256) (hi : i < 8) : Go.bits .or .i64 (i64 A) (IntKind.i64.wrap ((B : Int) * 2 ^ (8 * i))) = i64 (A + 256 ^ i * B) := by
  have hsum : A + 256 ^ i * B < 256 ^ (i + 1) := by
    have : 256 ^ i * B ≤ 256 ^ i * 255 := Nat.mul_le_mul_left _ (by omega)
    rw [Nat.pow_succ]; omega
  have hle : 256 ^ (i + 1) ≤ 256 ^ 8 := Nat.pow_le_pow_right (by decide) (by omega)
  have h8 : (256 : Nat) ^ 8 = 18446744073709551616 := rfl
  rw [h8] at hle
  have hc : ((B : Int) * 2 ^ (8 * i)) = ((256 ^ i * B : Nat) : Int) := by rw [pow8]; push_cast; rw [Int.mul_comm]
  rw [pow8] at hA hsum hc ⊢
  rw [hc, i64, i64, or64b (by omega) (by omega), or64c hA]
/-- Bytes that can be read, in a block other than g, below B. -/
structure RowB (w : World) (B g : Nat) (v : Value) (l : List UInt8) : Prop where
  len : l.length ≤ 1099511627776
  row : ∃ A c, v = .slice A l.length c ∧ l.length ≤ c ∧ (l ≠ [] → ∃ b off, A = some ⟨b, off, none⟩ ∧ b < B ∧ b ≠ g ∧ ∀ j, j < l.length → w.cell? ⟨b, off + j, none⟩ = some (u8V (l.getD j 0)))
theorem RowB.grown {w w' : World} {B g : Nat} {v : Value} {l : List UInt8} (h : RowB w B g v l) (hB : B ≤ w.heap.size) (hg : w.grownBy w' (some g)) : RowB w' B g v l := by
  obtain ⟨A, c, e, hc, h⟩ := h.row
  refine ⟨‹RowB w B g v l›.len, A, c, e, hc, fun h0 => ?_⟩
  obtain ⟨b, off, e2, hb, hne, hcell⟩ := h h0
  exact ⟨b, off, e2, hb, hne, fun j hj => (World.cell?_of_block (hg.block b (by omega) (fun e => hne (by injection e)))).trans (hcell j hj)⟩
theorem RowB.below {w w' : World} {B g : Nat} {v : Value} {l : List UInt8} (h : RowB w B g v l) (hb : Below B w w') : RowB w' B g v l := by
  obtain ⟨A, c, e, hc, h'⟩ := h.row
  refine ⟨h.len, A, c, e, hc, fun h0 => ?_⟩
  obtain ⟨b, off, e2, hlt, hne, hcell⟩ := h' h0
  exact ⟨b, off, e2, hlt, hne, fun j hj => (hb.cell (p := ⟨b, off + j, none⟩) hlt).trans (hcell j hj)⟩
/-- The reader's box: the bytes, how far, what is wrong, where. -/
def Rd (T : TypeId) (w : World) (g : Nat) (v : Value) (s : St) : Prop := ∃ a e p : Int, Whl w g T #[v, .int .i64 a, .int .i64 e, .int .i64 p] ∧ StIs s a e p
end Go.Proofs.YtjacfeohpofhpaaDoor

/-
  Layer 11 (pack): the walks of the reader's fail, take, number and count.
-/
namespace Go.Proofs.YtjacfeohpofhpaaDoor
open Go.RowKit
set_option linter.unusedSimpArgs false
set_option linter.unusedVariables false
variable {T : TypeId} {g : Nat} {v : Value} {s : St} {w : World} {L : List UInt8}
set_option maxHeartbeats 4000000 in
theorem failP (e p : Int) (he : e ≠ 0) (h : Rd T w g v s) : Calls Tryd.prog 22 #[.pointer (some ⟨g, 0, none⟩), .int .i64 e, .int .i64 p] w fun x w' =>
    x = .returned (.tuple #[]) ∧ Rd T w' g v (failS s e p) ∧ w.grownBy w' (some g) := by
  obtain ⟨a0, e0, p0, hW, hS⟩ := h
  have c2 : w.cell? ⟨g, 2, none⟩ = some (.int .i64 e0) := hW.cell 2
  have c3 : w.cell? ⟨g, 3, none⟩ = some (.int .i64 p0) := hW.cell 3
  have z2 := hW.frozen 2
  have z3 := hW.frozen 3
  have lg := hW.lt
  cases s with
  | ok a =>
    obtain ⟨rfl, rfl, ha⟩ := hS
    go_enter Tryd.func22, Tryd.ntmps22
    go_wp2
    refine bodyPost_end (results_none (by kernel_rfl) _ _ _) rfl ?_
    refine ⟨rfl, ⟨(a : Int), e, p, ?_, rfl, rfl, he⟩, ?_⟩
    · simpa using (hW.put 2 (.int .i64 e)).put 3 (.int .i64 p)
    · exact Lib.grownBy_setB (Lib.grownBy_setB (Lib.Hx.grownBy_refl w _) 2 _) 3 _
  | bad x y =>
    obtain ⟨rfl, rfl, hx⟩ := hS
    go_enter Tryd.func22, Tryd.ntmps22
    go_wp2
    refine bodyPost_end (results_none (by kernel_rfl) _ _ _) rfl ?_
    exact ⟨rfl, ⟨_, _, _, hW, rfl, rfl, hx⟩, Lib.Hx.grownBy_refl w _⟩
theorem Rd.drew (h : Rd T w g v s) : Rd T w.drew g v s := h
theorem RowB.take {w : World} {B g a n c : Nat} {A : Option Addr} {L : List UInt8} (h : RowB w B g (.slice A L.length c) L) (hle : a + n ≤ L.length) : RowB w B g (.slice (A.map fun x => x.add a) n (c - a)) (readL L (.ok a) n) := by
  obtain ⟨A2, c2, e, hc, hrow⟩ := h.row
  injection e with e1 e2 e3
  subst e1 e3
  have hr : readL L (.ok a) n = (L.drop a).take n := by simp only [readL, if_pos hle]
  have hl : (readL L (.ok a) n).length = n := readL_len _ _ _
  refine ⟨by rw [hl]; have := h.len; omega, A.map (fun x => x.add a), c - a, by rw [hl], by rw [hl]; omega, fun h0 => ?_⟩
  have hn : 0 < n := by
    rcases Nat.eq_zero_or_pos n with rfl | q
    · exact absurd (by rw [hr]; simp) h0
    · exact q
  obtain ⟨b, off, rfl, hb, hne, hcell⟩ := hrow (by intro e; subst e; simp at hle; omega)
  refine ⟨b, off + a, by simp [Go.WideShapes.add_plain], hb, hne, fun j hj => ?_⟩
  rw [hl] at hj
  rw [Nat.add_assoc, hcell (a + j) (by omega), hr]
  simp only [List.getD_eq_getElem?_getD, List.getElem?_take, if_pos hj, List.getElem?_drop]
theorem RowB.more {w : World} {B B' g : Nat} {v : Value} {l : List UInt8} (h : RowB w B g v l) (hB : B ≤ B') : RowB w B' g v l := by
  obtain ⟨A, c, e, hc, h'⟩ := h.row
  refine ⟨h.len, A, c, e, hc, fun h0 => ?_⟩
  obtain ⟨b, off, e2, hlt, r⟩ := h' h0
  exact ⟨b, off, e2, by omega, r⟩
theorem RowB.nil0 {w : World} {B g n : Nat} {A : Option Addr} {L : List UInt8} {s : St} (h : n = 0) : RowB w B g (.slice A n 0) (readL L s n) := by
  subst h
  have hl : (readL L s 0).length = 0 := readL_len _ _ _
  exact ⟨by omega, A, 0, by rw [hl], by omega, fun h0 => absurd (List.eq_nil_of_length_eq_zero hl) h0⟩
theorem RowB.made {w : World} {B g n : Nat} {L : List UInt8} {s : St} (h : readL L s n = List.replicate n 0) (hn : n ≤ 65536) (hg : g < w.heap.size) (hB : w.heap.size < B) :
    RowB (w.alloc (.cells (madeCells #[.int .u8 0] n) 5)) B g (.slice (some ⟨w.heap.size, 0, .none⟩) n n) (readL L s n) := by
  have hl : (readL L s n).length = n := readL_len _ _ _
  have hW := Whl.new w 5 (madeCells #[.int .u8 0] n)
  refine ⟨by omega, _, n, by rw [hl], by omega, fun h0 => ⟨_, 0, rfl, hB, by omega, fun j hj => ?_⟩⟩
  rw [hl] at hj
  rw [Nat.zero_add, hW.cell j, h]
  simp [madeCells, hj, List.getD_eq_getElem?_getD, Nat.mod_one, u8V]
theorem mkB {n : Nat} (hn : n ≤ 65536) (w : World) : (Instr.makeSlice 27 (.int .i64 (n : Int)) (.int .i64 (n : Int))).run Tryd.prog w = .ok (.slice (some ⟨w.heap.size, 0, none⟩) n n) (w.alloc (.cells (madeCells #[.int .u8 0] n) 5)) := by
  obtain ⟨i0, hi, hz0, hz1, hz2⟩ := info_parts infoB
  have := run_make (P := Tryd.prog) w 27 5 i0 (.int .u8 0) Tryd.underlying27 hi hz0 .i64 .i64 n n (by omega) (by omega) (by rw [hz2]; omega) (by omega)
  rw [this, hz1]
  simp [Value.cells]
set_option maxHeartbeats 4000000 in
theorem takeP (n B : Nat) (hB : B ≤ w.heap.size) (hn : n ≤ 65536) (hv : RowB w B g v L) (h : Rd T w g v s) : Calls Tryd.prog 21 #[.pointer (some ⟨g, 0, none⟩), .int .i64 (n : Int)] w fun x w' =>
    ∃ u, x = .returned u ∧ RowB w' w'.heap.size g u (readL L s n) ∧ Rd T w' g v (takeS L s n) ∧ w.grownBy w' (some g) := by
  have HR := Lib.hid h
  have hmk := mkB hn
  obtain ⟨a0, e0, p0, hW, hS⟩ := h
  obtain ⟨A, c, rfl, hc, hrow⟩ := hv.row
  have c0 : w.cell? ⟨g, 0, none⟩ = some (.slice A L.length c) := hW.cell 0
  have c1 : w.cell? ⟨g, 1, none⟩ = some (.int .i64 a0) := hW.cell 1
  have c2 : w.cell? ⟨g, 2, none⟩ = some (.int .i64 e0) := hW.cell 2
  have z1 := hW.frozen 1
  have lg := hW.lt
  have hlen := hv.len
  cases s with
  | ok a =>
    obtain ⟨rfl, rfl, ha⟩ := hS
    by_cases hle : a + n ≤ L.length
    · have u1 : decide ((L.length : Int) - (a : Int) < (n : Int)) = false := by simp; omega
      go_enter Tryd.func21, Tryd.ntmps21
      go_wp2
      go_region
      go_wp2
      go_region
      go_wp2
      · go_ret
        obtain rfl : a = c := by omega
        refine ⟨_, rfl, RowB.nil0 (by omega), ⟨(a : Int) + (n : Int), 0, p0, by simpa using (hW.put 1 (.int .i64 ((a : Int) + (n : Int)))).drew.drew, ?_⟩, Lib.Hx.grownBy_drew (Lib.Hx.grownBy_drew (Lib.grownBy_setB (Lib.Hx.grownBy_refl w _) 1 _))⟩
        rw [takeS, if_pos hle]
        exact ⟨by simp, rfl, by omega⟩
      · go_ret
        refine ⟨_, rfl, ?_, ⟨(a : Int) + (n : Int), 0, p0, by simpa using (hW.put 1 (.int .i64 ((a : Int) + (n : Int)))).drew.drew, ?_⟩, Lib.Hx.grownBy_drew (Lib.Hx.grownBy_drew (Lib.grownBy_setB (Lib.Hx.grownBy_refl w _) 1 _))⟩
        · refine RowB.take ((hv.grown hB ?_).more ?_) hle
          · exact Lib.Hx.grownBy_drew (Lib.Hx.grownBy_drew (Lib.grownBy_setB (Lib.Hx.grownBy_refl w _) 1 _))
          · simpa [World.drew, World.setCell] using hB
        · rw [takeS, if_pos hle]
          exact ⟨by simp, rfl, by omega⟩
    · have u1 : decide ((L.length : Int) - (a : Int) < (n : Int)) = true := by simp; omega
      go_enter Tryd.func21, Tryd.ntmps21
      go_wp2
      go_region
      go_wp2_with (go_at_call 22; with_reducible refine (failP (w := w.drew) 6 (L.length : Int) (by decide) HR.out.drew).mono ?_; rintro e w1 ⟨rfl, hR1, hg1⟩)
      go_ret
      have hg2 := Lib.grownBy_trans (Lib.Hx.grownBy_drew (Lib.Hx.grownBy_refl w (some g))) hg1
      refine ⟨_, rfl, RowB.made (by simp only [readL, if_neg hle]) hn (Nat.lt_of_lt_of_le lg hg2.size) (by simp), ?_, Lib.grownBy_trans hg2 (World.grownBy_alloc w1 _ _)⟩
      rw [takeS, if_neg hle]
      obtain ⟨x1, x2, x3, hW1, hS1⟩ := hR1
      exact ⟨x1, x2, x3, hW1.alloc _, hS1⟩
  | bad x y =>
    obtain ⟨rfl, rfl, hx⟩ := hS
    have hx1 : (e0 != 0) = true := by simpa using hx
    have hx2 : (e0 == 0) = false := by simpa using hx
    go_enter Tryd.func21, Tryd.ntmps21
    go_wp2
    go_region
    go_wp2_with (go_at_call 22; with_reducible refine (failP (w := w.drew) 6 (L.length : Int) (by decide) HR.out.drew).mono ?_; rintro e w1 ⟨rfl, hR1, hg1⟩)
    go_ret
    have hg2 := Lib.grownBy_trans (Lib.Hx.grownBy_drew (Lib.Hx.grownBy_refl w (some g))) hg1
    refine ⟨_, rfl, RowB.made rfl hn (Nat.lt_of_lt_of_le lg hg2.size) (by simp), ?_, Lib.grownBy_trans hg2 (World.grownBy_alloc w1 _ _)⟩
    obtain ⟨x1, x2, x3, hW1, hS1⟩ := hR1
    exact ⟨x1, x2, x3, hW1.alloc _, hS1⟩
end Go.Proofs.YtjacfeohpofhpaaDoor

/-
  A call of a Go function of one, two or four arguments, as a step of a region that draws, for go_region_law.
-/
namespace Go.Proofs.YtjacfeohpofhpaaDoor
open Go.RowKit
theorem step_call1 {P : Program} {w : World} {ops : Array Oper} {o : Oper} {a : Act} {K : Act → World → Prop} {Q : Exit → Act → World → Prop} {E : Prop} (hgd : o.guard = none) (f : FuncId) (x : Operand) (ts : Array TypeId)
    {fn : Func} (hfn : P.funcs[f]? = some fn) (hnm : (fn.name == "runtime.NumGoroutine") = false) (hbd : fn.body.isNone = false) (ho : o.op = .call { callee := .value (.func f), args := #[x], argTypes := ts })
    {R : World → Value → Prop} (hc : Calls P f #[a.eval x] w fun e w' => ∃ v, e = .returned v ∧ R w' v) (h : ∀ v w', R w' v → K (a.put o.dst v) w') :
    if Region.wanted o (yielded ops a.tmps) = true then Oper.wp P o a w K Q else E := by
  have hw : Region.wanted o (yielded ops a.tmps) = true := by simp [Region.wanted, hgd]
  rw [if_pos hw]
  have hr : o.upon P a K Q (.ok (.enter f #[a.eval x]) w) := by
    rw [Oper.upon_enter]
    refine hc.mono ?_
    rintro e w' ⟨v, rfl, hv⟩
    exact h v w' hv
  unfold Oper.wp execOp
  have hf : a.eval (.func f) = .func (.func f) #[] #[] := rfl
  simp only [ho, resolve, invoke, hf, Deferred.ofValue, callFunc, Sem.run_bind, Sem.run_pure, Result.andThen_ok, List.map_toArray, List.map_cons, List.map_nil]
  have hp : Sem.run P program w = .ok P w := rfl
  simp only [hp, Result.andThen_ok, hfn, hnm, hbd]
  simpa using hr
theorem step_call2 {P : Program} {w : World} {ops : Array Oper} {o : Oper} {a : Act} {K : Act → World → Prop} {Q : Exit → Act → World → Prop} {E : Prop} (hgd : o.guard = none) (f : FuncId) (x y : Operand) (ts : Array TypeId)
    {fn : Func} (hfn : P.funcs[f]? = some fn) (hnm : (fn.name == "runtime.NumGoroutine") = false) (hbd : fn.body.isNone = false) (ho : o.op = .call { callee := .value (.func f), args := #[x, y], argTypes := ts })
    {R : World → Value → Prop} (hc : Calls P f #[a.eval x, a.eval y] w fun e w' => ∃ v, e = .returned v ∧ R w' v) (h : ∀ v w', R w' v → K (a.put o.dst v) w') :
    if Region.wanted o (yielded ops a.tmps) = true then Oper.wp P o a w K Q else E := by
  have hw : Region.wanted o (yielded ops a.tmps) = true := by simp [Region.wanted, hgd]
  rw [if_pos hw]
  have hr : o.upon P a K Q (.ok (.enter f #[a.eval x, a.eval y]) w) := by
    rw [Oper.upon_enter]
    refine hc.mono ?_
    rintro e w' ⟨v, rfl, hv⟩
    exact h v w' hv
  unfold Oper.wp execOp
  have hf : a.eval (.func f) = .func (.func f) #[] #[] := rfl
  simp only [ho, resolve, invoke, hf, Deferred.ofValue, callFunc, Sem.run_bind, Sem.run_pure, Result.andThen_ok, List.map_toArray, List.map_cons, List.map_nil]
  have hp : Sem.run P program w = .ok P w := rfl
  simp only [hp, Result.andThen_ok, hfn, hnm, hbd]
  simpa using hr
theorem step_call4 {P : Program} {w : World} {ops : Array Oper} {o : Oper} {a : Act} {K : Act → World → Prop} {Q : Exit → Act → World → Prop} {E : Prop} (hgd : o.guard = none) (f : FuncId) (x y z u : Operand) (ts : Array TypeId)
    {fn : Func} (hfn : P.funcs[f]? = some fn) (hnm : (fn.name == "runtime.NumGoroutine") = false) (hbd : fn.body.isNone = false) (ho : o.op = .call { callee := .value (.func f), args := #[x, y, z, u], argTypes := ts })
    {R : World → Value → Prop} (hc : Calls P f #[a.eval x, a.eval y, a.eval z, a.eval u] w fun e w' => ∃ v, e = .returned v ∧ R w' v) (h : ∀ v w', R w' v → K (a.put o.dst v) w') :
    if Region.wanted o (yielded ops a.tmps) = true then Oper.wp P o a w K Q else E := by
  have hw : Region.wanted o (yielded ops a.tmps) = true := by simp [Region.wanted, hgd]
  rw [if_pos hw]
  have hr : o.upon P a K Q (.ok (.enter f #[a.eval x, a.eval y, a.eval z, a.eval u]) w) := by
    rw [Oper.upon_enter]
    refine hc.mono ?_
    rintro e w' ⟨v, rfl, hv⟩
    exact h v w' hv
  unfold Oper.wp execOp
  have hf : a.eval (.func f) = .func (.func f) #[] #[] := rfl
  simp only [ho, resolve, invoke, hf, Deferred.ofValue, callFunc, Sem.run_bind, Sem.run_pure, Result.andThen_ok, List.map_toArray, List.map_cons, List.map_nil]
  have hp : Sem.run P program w = .ok P w := rfl
  simp only [hp, Result.andThen_ok, hfn, hnm, hbd]
  simpa using hr
end Go.Proofs.YtjacfeohpofhpaaDoor

/-
  Layer 11 (pack): the walks of the reader's number, count and instruction.
-/
namespace Go.Proofs.YtjacfeohpofhpaaDoor
open Go.RowKit
set_option linter.unusedSimpArgs false
set_option linter.unusedVariables false
variable {T : TypeId} {g : Nat} {v : Value} {s : St} {w : World} {L : List UInt8}
theorem Rd.okCells {a : Nat} (h : Rd T w g v (.ok a)) : ∃ p : Int, Whl w g T #[v, .int .i64 (a : Int), .int .i64 0, .int .i64 p] ∧ a ≤ 1099511627776 := by
  obtain ⟨x, y, z, hW, rfl, rfl, ha⟩ := h
  exact ⟨z, hW, ha⟩
theorem Rd.badCells {e p : Int} (h : Rd T w g v (.bad e p)) : ∃ a : Int, Whl w g T #[v, .int .i64 a, .int .i64 e, .int .i64 p] ∧ e ≠ 0 := by
  obtain ⟨x, y, z, hW, rfl, rfl, ha⟩ := h
  exact ⟨x, hW, ha⟩
theorem rd1 {a b c d : Value} {w : World} {T : TypeId} {g : Nat} (h : Whl w g T #[a, b, c, d]) : w.cell? ⟨g, 1, none⟩ = some b := h.cell 1
theorem rd2 {a b c d : Value} {w : World} {T : TypeId} {g : Nat} (h : Whl w g T #[a, b, c, d]) : w.cell? ⟨g, 2, none⟩ = some c := h.cell 2
theorem bad_ne {e : Int} (h : e ≠ 0) : (e != 0) = true := by simpa using h
theorem natS_bad {x y : Int} {k : Nat} (h : takeS L s k = .bad x y) : natS L s k = 0 := by
  have : readL L s k = List.replicate k 0 := by
    cases s with
    | ok a =>
      simp only [takeS] at h
      split at h
      · cases h
      · rename_i hh; simp only [readL, if_neg hh]
    | bad x y => rfl
  rw [natS, this, leN_zero]
theorem leN_take {l : List UInt8} {j : Nat} (h : j < l.length) : leN (l.take (j + 1)) = leN (l.take j) + 256 ^ j * (l.getD j 0).toNat := by
  have e : l.take (j + 1) = l.take j ++ [l.getD j 0] := by
    rw [List.take_add_one, List.getElem?_eq_getElem h, List.getD_eq_getElem?_getD, List.getElem?_eq_getElem h]; rfl
  rw [e, leN_app, List.length_take, Nat.min_eq_left (by omega)]
  simp [leN]
theorem leN_takeLt (l : List UInt8) (j : Nat) : leN (l.take j) < 256 ^ j := by
  have h := leN_lt (l.take j)
  have h2 : (256 : Nat) ^ (l.take j).length ≤ 256 ^ j := Nat.pow_le_pow_right (by decide) (by rw [List.length_take]; omega)
  omega
set_option maxHeartbeats 4000000 in
theorem numberP (k B : Nat) (hB : B ≤ w.heap.size) (hk : k ≤ 8) (hv : RowB w B g v L) (h : Rd T w g v s) : Calls Tryd.prog 24 #[.pointer (some ⟨g, 0, none⟩), .int .i64 (k : Int)] w fun x w' =>
    x = .returned (.int .i64 (i64 (natS L s k))) ∧ Rd T w' g v (takeS L s k) ∧ w.grownBy w' (some g) := by
  have HV := Lib.hid hv
  have HR := Lib.hid h
  clear hv h
  go_enter Tryd.func24, Tryd.ntmps24
  go_wp2_with (go_at_call 21; with_reducible refine (takeP k B hB (by omega) HV.out HR.out).mono ?_; rintro e w1 ⟨u, rfl, hu, hR1, hg1⟩; obtain ⟨A, c, rfl, hc, hrow⟩ := hu.row)
  have hl : (readL L s k).length = k := readL_len _ _ _
  rw [hl] at hc hrow ⊢
  go_loopw [5, 12] (fun n i wr => ∃ j : Nat, j ≤ k ∧ i = .int .i64 j ∧ n = .int .i64 (i64 (leN ((readL L s k).take j))) ∧ wr = w1) (fun _ i _ => k - (intOf i).toNat)
  case atStart => exact ⟨0, by omega, rfl, rfl, rfl⟩
  case round =>
    obtain ⟨j, hj, rfl, rfl, rfl⟩ := hrel
    by_cases hlt : j < k
    · obtain ⟨b, off, rfl, hb, hne, hcell⟩ := hrow (by intro e; rw [e] at hl; simp at hl; omega)
      have hx := hcell j (by omega)
      have hor := or64 (leN_takeLt (readL L s k) j) ((readL L s k).getD j 0).toNat_lt (i := j) (by omega)
      have hnx := leN_take (l := readL L s k) (j := j) (by omega)
      clear hcell hrow
      generalize (readL L s k).getD j 0 = d at *
      have hd := d.toNat_lt
      have hw : IntKind.i64.wrap (d.toNat : Int) = (d.toNat : Int) := by rw [IntKind.wrap_i64]; omega
      go_wp2
      refine ⟨⟨j + 1, by omega, by go_num, ?_, trivial⟩, by simp [intOf]; omega⟩
      rw [hnx]
      rw [IntWalk.i64_left] at hor
      exact congrArg (Value.int IntKind.i64) hor
    · obtain rfl : j = k := by omega
      go_wp2
      go_ret
      refine ⟨?_, hR1, hg1⟩
      rw [List.take_of_length_le (by omega)]
      rfl
set_option maxHeartbeats 4000000 in
theorem countP (k most B : Nat) (e : Int) (he : e ≠ 0) (hB : B ≤ w.heap.size) (hk : k ≤ 2) (hm : most ≤ 65536) (hv : RowB w B g v L) (h : Rd T w g v s) : Calls Tryd.prog 23 #[.pointer (some ⟨g, 0, none⟩), .int .i64 (k : Int), .int .i64 (most : Int), .int .i64 e] w fun x w' =>
    x = .returned (.int .i64 (cntV L s k most)) ∧ Rd T w' g v (cntS L s k most e) ∧ w.grownBy w' (some g) := by
  have HV := Lib.hid hv
  have HR := Lib.hid h
  have hn := natS_lt L s k
  have hk2 : (256 : Nat) ^ k ≤ 256 ^ 2 := Nat.pow_le_pow_right (by decide) hk
  have hn2 : natS L s k < 65536 := by omega
  have HI := Lib.hid (i64_small (n := natS L s k) (by omega))
  clear hv h hn hk2
  cases h1 : takeS L s k with
  | ok a =>
    by_cases hgt : most < natS L s k
    · have q1 : cntV L s k most = 0 := by simp only [cntV, h1, if_pos hgt]
      have q2 : cntS L s k most e = .bad e ((a : Int) - k) := by simp only [cntS, h1, if_pos hgt]
      rw [q1, q2]
      clear q1 q2
      go_enter Tryd.func23, Tryd.ntmps23
      have HG := Lib.hid hgt
      clear hgt
      go_wp2_with (first
        | (go_at_call 24; with_reducible refine (numberP k B hB (by omega) HV.out HR.out).mono ?_; rintro e w1 ⟨rfl, hR1, hg1⟩; rw [HI.out]; rw [h1] at hR1; have HR1 := Lib.hid hR1; obtain ⟨x3, hW1, ha⟩ := hR1.okCells; have c1 : w1.cell? ⟨g, 1, none⟩ = some (.int .i64 (a : Int)) := rd1 hW1; have l1 := hW1.lt; have hgt := HG.out)
        | (go_at_call 22; with_reducible refine (failP e ((a : Int) - (k : Int)) he HR1.out).mono ?_; rintro e2 w2 ⟨rfl, hR2, hg2⟩; obtain ⟨y1, hW2, hy⟩ := Rd.badCells hR2; have hy2 := bad_ne hy; have c2 := rd2 hW2; have l2 := hW2.lt))
      go_ret
      exact ⟨rfl, hR2, Lib.grownBy_trans hg1 hg2⟩
    · have q1 : cntV L s k most = natS L s k := by simp only [cntV, h1, if_neg hgt]
      have q2 : cntS L s k most e = .ok a := by simp only [cntS, h1, if_neg hgt]
      rw [q1, q2]
      clear q1 q2
      go_enter Tryd.func23, Tryd.ntmps23
      have HG := Lib.hid hgt
      clear hgt
      go_wp2_with (go_at_call 24; with_reducible refine (numberP k B hB (by omega) HV.out HR.out).mono ?_; rintro e w1 ⟨rfl, hR1, hg1⟩; rw [HI.out]; rw [h1] at hR1; obtain ⟨x3, hW1, ha⟩ := hR1.okCells; have c2 := rd2 hW1; have l1 := hW1.lt; have hgt := HG.out)
      go_ret
      exact ⟨rfl, hR1, hg1⟩
  | bad x y =>
    have h0 : natS L s k = 0 := natS_bad h1
    rw [h0] at HI
    have q1 : cntV L s k most = 0 := by simp only [cntV, h1]
    have q2 : cntS L s k most e = .bad x y := by simp only [cntS, h1]
    rw [q1, q2]
    clear q1 q2
    go_enter Tryd.func23, Tryd.ntmps23
    clear hn2
    go_wp2_with (go_at_call 24; with_reducible refine (numberP k B hB (by omega) HV.out HR.out).mono ?_; rintro e w1 ⟨rfl, hR1, hg1⟩; rw [h0, HI.out]; rw [h1] at hR1; obtain ⟨x3, hW1, ha⟩ := hR1.badCells; have ha2 := bad_ne ha; have c2 := rd2 hW1; have l1 := hW1.lt)
    go_ret
    exact ⟨rfl, hR1, hg1⟩
theorem take1P (B : Nat) (hB : B ≤ w.heap.size) (hv : RowB w B g v L) (h : Rd T w g v s) : Calls Tryd.prog 21 #[.pointer (some ⟨g, 0, none⟩), .int .i64 1] w fun x w' =>
    ∃ u, x = .returned u ∧ RowB w' w'.heap.size g u (readL L s 1) ∧ Rd T w' g v (takeS L s 1) ∧ w.grownBy w' (some g) := takeP 1 B hB (by decide) hv h
theorem take4P (B : Nat) (hB : B ≤ w.heap.size) (hv : RowB w B g v L) (h : Rd T w g v s) : Calls Tryd.prog 21 #[.pointer (some ⟨g, 0, none⟩), .int .i64 4] w fun x w' =>
    ∃ u, x = .returned u ∧ RowB w' w'.heap.size g u (readL L s 4) ∧ Rd T w' g v (takeS L s 4) ∧ w.grownBy w' (some g) := takeP 4 B hB (by decide) hv h
theorem number1P (B : Nat) (hB : B ≤ w.heap.size) (hv : RowB w B g v L) (h : Rd T w g v s) : Calls Tryd.prog 24 #[.pointer (some ⟨g, 0, none⟩), .int .i64 1] w fun x w' =>
    ∃ u, x = .returned u ∧ Rd T w' g v (takeS L s 1) ∧ w.grownBy w' (some g) ∧ u = .int .i64 (i64 (natS L s 1)) := (numberP 1 B hB (by decide) hv h).mono (fun _ _ h => ⟨_, h.1, h.2.1, h.2.2, rfl⟩)
theorem number2P (B : Nat) (hB : B ≤ w.heap.size) (hv : RowB w B g v L) (h : Rd T w g v s) : Calls Tryd.prog 24 #[.pointer (some ⟨g, 0, none⟩), .int .i64 2] w fun x w' =>
    ∃ u, x = .returned u ∧ Rd T w' g v (takeS L s 2) ∧ w.grownBy w' (some g) ∧ u = .int .i64 (i64 (natS L s 2)) := (numberP 2 B hB (by decide) hv h).mono (fun _ _ h => ⟨_, h.1, h.2.1, h.2.2, rfl⟩)
theorem number8P (B : Nat) (hB : B ≤ w.heap.size) (hv : RowB w B g v L) (h : Rd T w g v s) : Calls Tryd.prog 24 #[.pointer (some ⟨g, 0, none⟩), .int .i64 8] w fun x w' =>
    ∃ u, x = .returned u ∧ Rd T w' g v (takeS L s 8) ∧ w.grownBy w' (some g) ∧ u = .int .i64 (i64 (natS L s 8)) := (numberP 8 B hB (by decide) hv h).mono (fun _ _ h => ⟨_, h.1, h.2.1, h.2.2, rfl⟩)
theorem countNameP (B : Nat) (hB : B ≤ w.heap.size) (hv : RowB w B g v L) (h : Rd T w g v s) : Calls Tryd.prog 23 #[.pointer (some ⟨g, 0, none⟩), .int .i64 1, .int .i64 16, .int .i64 8] w fun x w' =>
    ∃ u, x = .returned u ∧ Rd T w' g v (cntS L s 1 16 8) ∧ w.grownBy w' (some g) ∧ u = .int .i64 (cntV L s 1 16) := (countP 1 16 B 8 (by decide) hB (by decide) (by decide) hv h).mono (fun _ _ h => ⟨_, h.1, h.2.1, h.2.2, rfl⟩)
theorem countParP (B : Nat) (hB : B ≤ w.heap.size) (hv : RowB w B g v L) (h : Rd T w g v s) : Calls Tryd.prog 23 #[.pointer (some ⟨g, 0, none⟩), .int .i64 1, .int .i64 8, .int .i64 3] w fun x w' =>
    ∃ u, x = .returned u ∧ Rd T w' g v (cntS L s 1 8 3) ∧ w.grownBy w' (some g) ∧ u = .int .i64 (cntV L s 1 8) := (countP 1 8 B 3 (by decide) hB (by decide) (by decide) hv h).mono (fun _ _ h => ⟨_, h.1, h.2.1, h.2.2, rfl⟩)
theorem countCodeP (B : Nat) (hB : B ≤ w.heap.size) (hv : RowB w B g v L) (h : Rd T w g v s) : Calls Tryd.prog 23 #[.pointer (some ⟨g, 0, none⟩), .int .i64 2, .int .i64 1024, .int .i64 97] w fun x w' =>
    ∃ u, x = .returned u ∧ Rd T w' g v (cntS L s 2 1024 97) ∧ w.grownBy w' (some g) ∧ u = .int .i64 (cntV L s 2 1024) := (countP 2 1024 B 97 (by decide) hB (by decide) (by decide) hv h).mono (fun _ _ h => ⟨_, h.1, h.2.1, h.2.2, rfl⟩)
theorem countThsP (B : Nat) (hB : B ≤ w.heap.size) (hv : RowB w B g v L) (h : Rd T w g v s) : Calls Tryd.prog 23 #[.pointer (some ⟨g, 0, none⟩), .int .i64 1, .int .i64 16, .int .i64 3] w fun x w' =>
    ∃ u, x = .returned u ∧ Rd T w' g v (cntS L s 1 16 3) ∧ w.grownBy w' (some g) ∧ u = .int .i64 (cntV L s 1 16) := (countP 1 16 B 3 (by decide) hB (by decide) (by decide) hv h).mono (fun _ _ h => ⟨_, h.1, h.2.1, h.2.2, rfl⟩)
theorem countFunP (B : Nat) (hB : B ≤ w.heap.size) (hv : RowB w B g v L) (h : Rd T w g v s) : Calls Tryd.prog 23 #[.pointer (some ⟨g, 0, none⟩), .int .i64 1, .int .i64 32, .int .i64 3] w fun x w' =>
    ∃ u, x = .returned u ∧ Rd T w' g v (cntS L s 1 32 3) ∧ w.grownBy w' (some g) ∧ u = .int .i64 (cntV L s 1 32) := (countP 1 32 B 3 (by decide) hB (by decide) (by decide) hv h).mono (fun _ _ h => ⟨_, h.1, h.2.1, h.2.2, rfl⟩)
end Go.Proofs.YtjacfeohpofhpaaDoor
