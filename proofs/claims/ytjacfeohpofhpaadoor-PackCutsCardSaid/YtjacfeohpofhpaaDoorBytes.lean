/-
  Layer 11 (pack): rows of bytes of the call's own that grow; the walks of number and of the reference's Number.
-/
import Derived.Test.YtjacfeohpofhpaaDoorOwn
import Derived.Deep.AppendLies
import Derived.LoopTactic
import Derived.Laws.Shifts
import Derived.Maps.Range
namespace Go.Proofs.YtjacfeohpofhpaaDoor
open Go.RowKit
set_option linter.unusedSimpArgs false
set_option linter.unusedVariables false
def byteB (z : Int) : UInt8 := UInt8.ofNat (z % 256).toNat
def encNum (n : Int) (k : Nat) : List UInt8 := (List.range k).map fun i => byteB (n / 2 ^ (8 * i))
theorem encNum_len (n : Int) (k : Nat) : (encNum n k).length = k := by simp [encNum]
theorem encNum_succ (n : Int) (k : Nat) : encNum n (k + 1) = encNum n k ++ [byteB (n / 2 ^ (8 * k))] := by simp [encNum, List.range_succ]
theorem byteB_nat (z : Int) : ((byteB z).toNat : Int) = z % 256 := by
  have h : (z % 256).toNat < 256 := by omega
  rw [byteB, UInt8.toNat_ofNat', Nat.mod_eq_of_lt h]; omega
theorem wrap_byte (z : Int) : IntKind.u8.wrap z = ((byteB z).toNat : Int) := by
  rw [byteB_nat]; simp [IntKind.wrap, IntKind.bits, IntKind.signed]
abbrev u8V (b : UInt8) : Value := .int .u8 (b.toNat : Int)
def U8s (l : List UInt8) : List Value := l.map u8V
theorem U8s_app (l m : List UInt8) : U8s (l ++ m) = U8s l ++ U8s m := by simp [U8s]
theorem U8s_len (l : List UInt8) : (U8s l).length = l.length := by simp [U8s]
theorem infoB : (Tryd.prog.info? 5).map (fun i => (i.zero, i.size, i.bytes)) = some (some (.int .u8 0), 1, 1) := by kernel_rfl
/-- A row of bytes of the call's own, all its blocks at B or above. -/
abbrev OwnB (w : World) (B : Nat) (v : Value) (l : List UInt8) : Prop := w.ownsRow B 5 1 v l.length (U8s l)
/-- The row has grown: nothing below B has turned, and blocks of other types that are known whole are as they were. -/
structure Grow (w : World) (B : Nat) (v2 : Value) (l : List UInt8) (W : World) : Prop where
  below : Below B w W
  keep : ∀ g t cs, t ≠ 5 → Whl w g t cs → Whl W g t cs
  own : OwnB W B v2 l
theorem Grow.refl {w : World} {B : Nat} {v : Value} {l : List UInt8} (h : OwnB w B v l) : Grow w B v l w := ⟨Below.refl _ _, fun _ _ _ _ h => h, h⟩
theorem Grow.trans {w W W2 : World} {B : Nat} {v1 v2 : Value} {l m : List UInt8} (h : Grow w B v1 l W) (k : Grow W B v2 m W2) : Grow w B v2 m W2 :=
  ⟨h.below.trans k.below, fun g t cs ht hw => k.keep g t cs ht (h.keep g t cs ht hw), k.own⟩
theorem Grow.alloc {w W : World} {B : Nat} {v : Value} {l : List UInt8} (h : Grow w B v l W) (hB : B ≤ W.heap.size) (o : Obj) : Grow w B v l (W.alloc o) :=
  ⟨h.below.alloc hB o, fun g t cs ht hw => (h.keep g t cs ht hw).alloc o, h.own.alloc o⟩
theorem Grow.drew {w W : World} {B : Nat} {v : Value} {l : List UInt8} (h : Grow w B v l W) : Grow w B v l W.drew := ⟨h.below.drew, fun g t cs ht hw => (h.keep g t cs ht hw).drew, h.own.drew⟩
/-- One append of bytes. -/
theorem Grow.step {w W W2 : World} {B : Nat} {v1 v2 : Value} {l m : List UInt8} (h : Grow w B v1 l W) (hB : B ≤ W.heap.size) (hg : W.grownBy W2 v1.ownBlock)
    (hown : W2.ownsRow B 5 1 v2 (l.length + m.length) (U8s l ++ U8s m)) : Grow w B v2 (l ++ m) W2 := by
  refine h.trans ⟨(Below.refl B W).grown hg hB fun k hk => (h.own.lt k hk).1, fun g t cs ht hw => hw.grown hg (own_whl h.own hw ht), ?_⟩
  rw [← U8s_app] at hown
  unfold OwnB
  rw [List.length_append]
  exact hown
theorem Grow.app {w W W2 : World} {B : Nat} {v1 v2 : Value} {l m : List UInt8} {o : Obj} (h : Grow w B v1 l W) (hB : B ≤ W.heap.size) (hg : (W.alloc o).grownBy W2 v1.ownBlock)
    (hown : W2.ownsRow B 5 1 v2 (l.length + m.length) (U8s l ++ U8s m)) : Grow w B v2 (l ++ m) W2 :=
  (h.alloc hB o).step (by simp; omega) hg hown
theorem Grow.size {w W : World} {B : Nat} {v : Value} {l : List UInt8} (h : Grow w B v l W) (hB : B ≤ w.heap.size) : B ≤ W.heap.size := Nat.le_trans hB h.below.size
set_option maxHeartbeats 4000000 in
theorem numP (v : Value) (l : List UInt8) (n : Int) (k : Nat) (B : Nat) (w : World) (hB : B ≤ w.heap.size) (hk : k ≤ 8) (hl : l.length ≤ 70368744177664) (ho : OwnB w B v l) :
    Calls Tryd.prog 17 #[v, .int .i64 n, .int .i64 (k : Int)] w fun e w' => ∃ v2, e = .returned v2 ∧ Grow w B v2 (l ++ encNum n k) w' := by
  obtain ⟨i0, hi, hz0, hz1, hz2⟩ := info_parts infoB
  go_enter Tryd.func17, Tryd.ntmps17
  go_wp2
  go_loopw [0, 9] (fun u i wr => ∃ j : Nat, j ≤ k ∧ i = .int .i64 j ∧ Grow w B u (l ++ encNum n j) wr) (fun _ i _ => k - (intOf i).toNat)
  case atStart => exact ⟨0, by omega, rfl, by simpa [encNum] using Grow.refl ho⟩
  case round =>
    obtain ⟨j, hj, rfl, hG⟩ := hrel
    have hB2 : B ≤ wr.heap.size := Nat.le_trans hB hG.below.size
    have hlen : (l ++ encNum n j).length = l.length + j := by rw [List.length_append, encNum_len]
    by_cases hlt : j < k
    · have hs := wrap_byte (n / 2 ^ (8 * j))
      have hsucc : l ++ encNum n (j + 1) = (l ++ encNum n j) ++ [byteB (n / 2 ^ (8 * j))] := by rw [encNum_succ, List.append_assoc]
      generalize byteB (n / 2 ^ (8 * j)) = b at *
      go_wp2_with (
        at_builtin
        refine wpList_append_lies _ rfl _ _ _ rfl B 5 i0 (.int .u8 0) 1 1 Tryd.underlying27 hi hz0 hz1 hz2 rfl (by decide) _ _ _ rfl (hG.own.alloc _) ⟨wr.heap.size, 0, none⟩ 1 1 [u8V b] rfl rfl (cell_one_new wr (u8V b) 5) (by simp [Value.oneCell']) (by decide) (by unfold maxLen; omega) (by omega) (by simp; omega) _ rfl ?_
        intro g cap w2 hown hgrow hat hlt2
        have hG2 := hG.app (m := [b]) hB2 hgrow hown)
      rw [← hsucc] at hG2
      simp only [List.length_cons, List.length_nil, Nat.zero_add, hlen] at hG2
      refine ⟨⟨j + 1, by omega, by go_num, hG2⟩, by simp [intOf]; omega⟩
    · obtain rfl : j = k := by omega
      go_wp2
      go_ret
      exact ⟨_, rfl, hG⟩
def digU (n k : Nat) : Nat := n / 256 ^ k
theorem encNum_nat {z : Int} {n : Nat} (h : (n : Int) = z % 18446744073709551616) {j : Nat} (hj : j < 8) : UInt8.ofNat (n / 256 ^ j % 256) = byteB (z / 2 ^ (8 * j)) := by
  have e : (n : Int) / 256 ^ j % 256 = z / 2 ^ (8 * j) % 256 := by
    rw [h]
    rcases (by omega : j = 0 ∨ j = 1 ∨ j = 2 ∨ j = 3 ∨ j = 4 ∨ j = 5 ∨ j = 6 ∨ j = 7) with rfl | rfl | rfl | rfl | rfl | rfl | rfl | rfl <;> simp <;> omega
  rw [byteB, ← e]
  rw [show (n : Int) / 256 ^ j % 256 = ((n / 256 ^ j % 256 : Nat) : Int) by simp, Int.toNat_natCast]
set_option maxHeartbeats 4000000 in
theorem numR (v : Value) (l : List UInt8) (z : Int) (n k : Nat) (B : Nat) (w : World) (hn : (n : Int) = z % 18446744073709551616) (hB : B ≤ w.heap.size) (hk : k ≤ 8) (hl : l.length ≤ 70368744177664) (ho : OwnB w B v l) :
    Calls Tryd.prog 19 #[v, .int .u64 (n : Int), .int .i64 (k : Int)] w fun e w' => ∃ v2, e = .returned v2 ∧ Grow w B v2 (l ++ encNum z k) w' := by
  obtain ⟨i0, hi, hz0, hz1, hz2⟩ := info_parts infoB
  have hn2 : n < 18446744073709551616 := by omega
  go_enter Tryd.func19, Tryd.ntmps19
  go_wp2
  go_loopw [0, 1, 7] (fun u m i wr => ∃ j : Nat, j ≤ k ∧ i = .int .i64 j ∧ m = .int .u64 ((n / 256 ^ j : Nat) : Int) ∧ Grow w B u (l ++ encNum z j) wr) (fun _ _ i _ => k - (intOf i).toNat)
  case atStart => exact ⟨0, by omega, rfl, by simp, by simpa [encNum] using Grow.refl ho⟩
  case round =>
    obtain ⟨j, hj, rfl, rfl, hG⟩ := hrel
    have hB2 : B ≤ wr.heap.size := Nat.le_trans hB hG.below.size
    have hlen : (l ++ encNum z j).length = l.length + j := by rw [List.length_append, encNum_len]
    by_cases hlt : j < k
    · have hb := encNum_nat hn (j := j) (by omega)
      have hsucc : l ++ encNum z (j + 1) = (l ++ encNum z j) ++ [byteB (z / 2 ^ (8 * j))] := by rw [encNum_succ, List.append_assoc]
      rw [← hb] at hsucc
      clear hb
      have hdiv : n / 256 ^ (j + 1) = n / 256 ^ j / 256 := by rw [Nat.pow_succ, Nat.div_div_eq_div_mul]
      have hml : n / 256 ^ j < 18446744073709551616 := Nat.lt_of_le_of_lt (Nat.div_le_self _ _) hn2
      generalize n / 256 ^ j = m at *
      have e1 : (m : Int).tmod 256 = ((m % 256 : Nat) : Int) := by rw [Int.tmod_eq_emod_of_nonneg (Int.natCast_nonneg _)]; omega
      have e2 : (m : Int).tdiv 256 = ((m / 256 : Nat) : Int) := by rw [Int.tdiv_eq_ediv_of_nonneg (Int.natCast_nonneg _)]; omega
      have e3 : IntKind.u64.wrap ((m % 256 : Nat) : Int) = ((m % 256 : Nat) : Int) := by rw [IntKind.wrap_u64]; omega
      have e4 : IntKind.u64.wrap ((m / 256 : Nat) : Int) = ((m / 256 : Nat) : Int) := by rw [IntKind.wrap_u64]; omega
      have e5 : IntKind.u8.wrap ((m % 256 : Nat) : Int) = ((UInt8.ofNat (m % 256)).toNat : Int) := by rw [wrap_byte, byteB_nat]; simp
      generalize UInt8.ofNat (m % 256) = b at *
      generalize m % 256 = r at *
      generalize m / 256 = q at *
      go_wp2_with (
        at_builtin
        refine wpList_append_lies _ rfl _ _ _ rfl B 5 i0 (.int .u8 0) 1 1 Tryd.underlying27 hi hz0 hz1 hz2 rfl (by decide) _ _ _ rfl (hG.own.alloc _) ⟨wr.heap.size, 0, none⟩ 1 1 [u8V b] rfl rfl (cell_one_new wr (u8V b) 5) (by simp [Value.oneCell']) (by decide) (by unfold maxLen; omega) (by omega) (by simp; omega) _ rfl ?_
        intro g cap w2 hown hgrow hat hlt2
        have hG2 := hG.app (m := [b]) hB2 hgrow hown)
      rw [← hsucc] at hG2
      simp only [List.length_cons, List.length_nil, Nat.zero_add, hlen] at hG2
      refine ⟨⟨j + 1, by omega, by go_num, by rw [hdiv], hG2⟩, by simp [intOf]; omega⟩
    · obtain rfl : j = k := by omega
      go_wp2
      go_ret
      exact ⟨_, rfl, hG⟩
theorem num8P (v : Value) (l : List UInt8) (n : Int) (B : Nat) (w : World) (hB : B ≤ w.heap.size) (hl : l.length ≤ 70368744177664) (ho : OwnB w B v l) :
    Calls Tryd.prog 17 #[v, .int .i64 n, .int .i64 8] w fun e w' => ∃ v2, e = .returned v2 ∧ Grow w B v2 (l ++ encNum n 8) w' := numP v l n 8 B w hB (by decide) hl ho
theorem num8R (v : Value) (l : List UInt8) (z : Int) (n : Nat) (B : Nat) (w : World) (hn : (n : Int) = z % 18446744073709551616) (hB : B ≤ w.heap.size) (hl : l.length ≤ 70368744177664) (ho : OwnB w B v l) :
    Calls Tryd.prog 19 #[v, .int .u64 (n : Int), .int .i64 8] w fun e w' => ∃ v2, e = .returned v2 ∧ Grow w B v2 (l ++ encNum z 8) w' := numR v l z n 8 B w hn hB (by decide) hl ho
theorem num2P (v : Value) (l : List UInt8) (n : Int) (B : Nat) (w : World) (hB : B ≤ w.heap.size) (hl : l.length ≤ 70368744177664) (ho : OwnB w B v l) :
    Calls Tryd.prog 17 #[v, .int .i64 n, .int .i64 2] w fun e w' => ∃ v2, e = .returned v2 ∧ Grow w B v2 (l ++ encNum n 2) w' := numP v l n 2 B w hB (by decide) hl ho
theorem num2R (v : Value) (l : List UInt8) (z : Int) (n : Nat) (B : Nat) (w : World) (hn : (n : Int) = z % 18446744073709551616) (hB : B ≤ w.heap.size) (hl : l.length ≤ 70368744177664) (ho : OwnB w B v l) :
    Calls Tryd.prog 19 #[v, .int .u64 (n : Int), .int .i64 2] w fun e w' => ∃ v2, e = .returned v2 ∧ Grow w B v2 (l ++ encNum z 2) w' := numR v l z n 2 B w hn hB (by decide) hl ho
end Go.Proofs.YtjacfeohpofhpaaDoor
