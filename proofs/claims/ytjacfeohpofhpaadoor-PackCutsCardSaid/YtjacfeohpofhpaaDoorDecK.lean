/-
  Layer 11 (pack): the walks of the reference's reader: fail, Number, many.
-/
import Derived.Test.YtjacfeohpofhpaaDoorDecN
import Derived.Test.YtjacfeohpofhpaaDoorDecI
import Derived.Test.YtjacfeohpofhpaaDoorCopy
import Derived.Deep.CutBlock
import Derived.Deep.DeepCutAuto
namespace Go.Proofs.YtjacfeohpofhpaaDoor
open Go.RowKit
set_option linter.unusedSimpArgs false
set_option linter.unusedVariables false
variable {T : TypeId} {g : Nat} {v : Value} {s : St} {w : World} {L : List UInt8}
set_option maxHeartbeats 4000000 in
theorem failQ (e p : Int) (he : e ≠ 0) (h : Rd T w g v s) : Calls Tryd.prog 27 #[.pointer (some ⟨g, 0, none⟩), .int .i64 e, .int .i64 p] w fun x w' =>
    x = .returned (.tuple #[]) ∧ Rd T w' g v (failS s e p) ∧ w.grownBy w' (some g) := by
  obtain ⟨a0, e0, p0, hW, hS⟩ := h
  have c2 : w.cell? ⟨g, 2, none⟩ = some (.int .i64 e0) := hW.cell 2
  have c3 : w.cell? ⟨g, 3, none⟩ = some (.int .i64 p0) := hW.cell 3
  have z2 := hW.frozen 2
  have z3 := hW.frozen 3
  have lg := hW.lt
  cases s with
  | ok a =>
    obtain ⟨rfl, rfl, ha⟩ := hS
    go_enter Tryd.func27, Tryd.ntmps27
    go_wp2
    refine bodyPost_end (results_none (by kernel_rfl) _ _ _) rfl ?_
    refine ⟨rfl, ⟨(a : Int), e, p, ?_, rfl, rfl, he⟩, ?_⟩
    · simpa using (hW.put 2 (.int .i64 e)).put 3 (.int .i64 p)
    · exact Lib.grownBy_setB (Lib.grownBy_setB (Lib.Hx.grownBy_refl w _) 2 _) 3 _
  | bad x y =>
    obtain ⟨rfl, rfl, hx⟩ := hS
    go_enter Tryd.func27, Tryd.ntmps27
    go_wp2
    refine bodyPost_end (results_none (by kernel_rfl) _ _ _) rfl ?_
    exact ⟨rfl, ⟨_, _, _, hW, rfl, rfl, hx⟩, Lib.Hx.grownBy_refl w _⟩
theorem leN_dropS {l : List UInt8} {j : Nat} (h : j < l.length) : leN (l.drop j) = (l.getD j 0).toNat + 256 * leN (l.drop (j + 1)) := by
  rw [List.drop_eq_getElem_cons h, leN, List.getD_eq_getElem?_getD, List.getElem?_eq_getElem h]; rfl
theorem natS_short {a k : Nat} (h : ¬ a + k ≤ L.length) : natS L (.ok a) k = 0 := by
  rw [natS, readL, if_neg h, leN_zero]
theorem natS_bad0 {x y : Int} {k : Nat} : natS L (.bad x y) k = 0 := by
  rw [natS, readL, leN_zero]
set_option maxHeartbeats 4000000 in
theorem numberQ (k B : Nat) (hB : B ≤ w.heap.size) (hk : k ≤ 8) (hv : RowB w B g v L) (h : Rd T w g v s) : Calls Tryd.prog 26 #[.pointer (some ⟨g, 0, none⟩), .int .i64 (k : Int)] w fun x w' =>
    x = .returned (.int .u64 ((natS L s k : Nat) : Int)) ∧ Rd T w' g v (takeS L s k) ∧ w.grownBy w' (some g) := by
  have HV := Lib.hid hv
  have HR := Lib.hid h
  obtain ⟨a0, e0, p0, hW, hS⟩ := h
  obtain ⟨A, c, rfl, hc, hrow⟩ := hv.row
  have c0 : w.cell? ⟨g, 0, none⟩ = some (.slice A L.length c) := hW.cell 0
  have c1 : w.cell? ⟨g, 1, none⟩ = some (.int .i64 a0) := hW.cell 1
  have c2 : w.cell? ⟨g, 2, none⟩ = some (.int .i64 e0) := hW.cell 2
  have z1 := hW.frozen 1
  have lg := hW.lt
  have hlen := hv.len
  clear hv
  cases s with
  | ok a =>
    obtain ⟨rfl, rfl, ha⟩ := hS
    by_cases hle : a + k ≤ L.length
    · have u1 : decide ((L.length : Int) - (a : Int) < (k : Int)) = false := by simp; omega
      go_enter Tryd.func26, Tryd.ntmps26
      go_wp2
      go_region
      go_wp2
      go_loopw [5, 6] (fun n i wr => ∃ j : Nat, j ≤ k ∧ i = .int .i64 ((j : Int) - 1) ∧ n = .int .u64 ((leN ((readL L (.ok a) k).drop j) : Nat) : Int) ∧ Whl wr g T #[.slice A L.length c, .int .i64 (a : Int), .int .i64 0, .int .i64 p0] ∧ RowB wr B g (.slice A L.length c) L ∧ w.grownBy wr (some g)) (fun _ i _ => (intOf i + 1).toNat)
      case atStart => exact ⟨k, Nat.le_refl _, by simp, by rw [List.drop_eq_nil_of_le (by rw [readL_len]; omega)]; rfl, hW, ⟨HV.out.len, HV.out.row⟩, Lib.Hx.grownBy_drew (Lib.Hx.grownBy_refl w (some g))⟩
      case round =>
        clear c0 c1 c2 z1 lg hrow
        obtain ⟨j, hj, rfl, rfl, hW2, hV2, hg2⟩ := hrel
        have c0 : wr.cell? ⟨g, 0, none⟩ = some (.slice A L.length c) := hW2.cell 0
        have c1 : wr.cell? ⟨g, 1, none⟩ = some (.int .i64 (a : Int)) := hW2.cell 1
        have z1 := hW2.frozen 1
        have lg := hW2.lt
        by_cases hlt : j = 0
        · subst hlt
          go_wp2
          go_ret
          refine ⟨by first | rfl | simp [natS], ⟨(a : Int) + (k : Int), 0, p0, by simpa using hW2.put 1 (.int .i64 ((a : Int) + (k : Int))), ?_⟩, Lib.grownBy_setB hg2 1 _⟩
          rw [takeS, if_pos hle]
          exact ⟨by simp, rfl, by omega⟩
        · obtain ⟨i, rfl⟩ : ∃ i, j = i + 1 := ⟨j - 1, by omega⟩
          obtain ⟨A2, c2, e, hc2, hrow2⟩ := hV2.row
          obtain ⟨b, off, rfl, hb, hne, hcell⟩ := hrow2 (by intro e; subst e; simp at hle; omega)
          cases e
          have hx := hcell (a + i) (by omega)
          have hd : (readL L (.ok a) k).getD i 0 = L.getD (a + i) 0 := by
            simp only [readL, if_pos hle, List.getD_eq_getElem?_getD, List.getElem?_take, List.getElem?_drop]
            rw [if_pos (by omega)]
          have hl := readL_len L (.ok a) k
          have hs := leN_dropS (l := readL L (.ok a) k) (j := i) (by omega)
          rw [hd] at hs
          have hb2 := leN_lt ((readL L (.ok a) k).drop i)
          have hp : (256 : Nat) ^ ((readL L (.ok a) k).drop i).length ≤ 256 ^ 8 := Nat.pow_le_pow_right (by decide) (by rw [List.length_drop]; omega)
          have h8 : (256 : Nat) ^ 8 = 18446744073709551616 := rfl
          rw [h8] at hp
          have HS := Lib.hid hs
          generalize leN ((readL L (.ok a) k).drop (i + 1)) = N at *
          have hM := HS.out
          rw [hM] at hb2
          generalize L.getD (a + i) 0 = d at *
          have hd2 := d.toNat_lt
          have e1 : IntKind.u64.wrap (256 * (N : Int)) = 256 * (N : Int) := by rw [IntKind.wrap_u64]; omega
          have e2 : IntKind.u64.wrap (d.toNat : Int) = (d.toNat : Int) := by rw [IntKind.wrap_u64]; omega
          have e3 : IntKind.u64.wrap (256 * (N : Int) + (d.toNat : Int)) = 256 * (N : Int) + (d.toNat : Int) := by rw [IntKind.wrap_u64]; omega
          have hi64 : (i : Int) ≤ 8 := by omega
          have q0 : (0 : Int) ≤ (a : Int) + (i : Int) := by omega
          have q1 : (a : Int) + (i : Int) < (L.length : Int) := by omega
          have q2 : IntKind.i64.wrap ((a : Int) + (i : Int)) = (a : Int) + (i : Int) := IntWalk.i64_in _ (by omega)
          have q3 : ((a : Int) + (i : Int)).toNat = a + i := by omega
          have HH := Lib.hid (And.intro hle (And.intro hj hV2))
          have HM := Lib.hid hM
          clear hcell hrow2 hd hl hb2 hp h8 hs hM hle hj hV2
          rw [show (((i + 1 : Nat) : Int) - 1) = (i : Int) by omega]
          go_wp2
          go_region
          go_wp2
          obtain ⟨hle, hj, hV2⟩ := HH.out
          refine ⟨⟨i, by omega, by first | rfl | go_num, ?_, hW2.drew, ⟨hV2.len, hV2.row⟩, Lib.Hx.grownBy_drew hg2⟩, by simp [intOf] <;> omega⟩
          rw [HM.out]
          exact congrArg (Value.int IntKind.u64) (by omega)
    · have u1 : decide ((L.length : Int) - (a : Int) < (k : Int)) = true := by simp; omega
      have hn0 := natS_short hle
      go_enter Tryd.func26, Tryd.ntmps26
      go_wp2
      go_region
      go_wp2_with (go_at_call 27; with_reducible refine (failQ (w := w.drew) 6 (L.length : Int) (by decide) HR.out.drew).mono ?_; rintro e w1 ⟨rfl, hR1, hg1⟩; obtain ⟨y1, hW2, hy⟩ := Rd.badCells hR1; have hy2 := bad_ne hy; have c2 := rd2 hW2; have l2 := hW2.lt)
      go_ret
      refine ⟨by rw [hn0]; rfl, ?_, Lib.grownBy_trans (Lib.Hx.grownBy_drew (Lib.Hx.grownBy_refl w (some g))) hg1⟩
      rw [takeS, if_neg hle]
      exact hR1
  | bad x y =>
    obtain ⟨rfl, rfl, hx⟩ := hS
    have hx1 : (e0 != 0) = true := by simpa using hx
    have hx2 : (e0 == 0) = false := by simpa using hx
    have hn0 := natS_bad0 (L := L) (x := e0) (y := p0) (k := k)
    go_enter Tryd.func26, Tryd.ntmps26
    go_wp2
    go_region
    go_wp2
    go_ret
    refine ⟨by rw [hn0]; rfl, HR.out.drew, Lib.Hx.grownBy_drew (Lib.Hx.grownBy_refl w (some g))⟩
set_option maxHeartbeats 4000000 in
theorem manyQ (k most B : Nat) (e : Int) (he : e ≠ 0) (hB : B ≤ w.heap.size) (hk : k ≤ 2) (hm : most ≤ 65536) (hv : RowB w B g v L) (h : Rd T w g v s) : Calls Tryd.prog 28 #[.pointer (some ⟨g, 0, none⟩), .int .i64 (k : Int), .int .i64 (most : Int), .int .i64 e] w fun x w' =>
    x = .returned (.int .i64 (cntV L s k most)) ∧ Rd T w' g v (cntS L s k most e) ∧ w.grownBy w' (some g) := by
  have HV := Lib.hid hv
  have HR := Lib.hid h
  have hn := natS_lt L s k
  have hk2 : (256 : Nat) ^ k ≤ 256 ^ 2 := Nat.pow_le_pow_right (by decide) hk
  have hn2 : natS L s k < 65536 := by omega
  have HI : IntKind.i64.wrap ((natS L s k : Nat) : Int) = ((natS L s k : Nat) : Int) := IntWalk.i64_in _ (by omega)
  obtain ⟨a0, e0, p0, hW, hS⟩ := h
  have c1 : w.cell? ⟨g, 1, none⟩ = some (.int .i64 a0) := hW.cell 1
  have lg := hW.lt
  have hF0 : ∀ a, takeS L s k = .ok a → a0 = (a : Int) - k := by
    intro a h1
    cases s with
    | ok x =>
      obtain ⟨rfl, _, _⟩ := hS
      simp only [takeS] at h1
      split at h1
      · cases h1; omega
      · cases h1
    | bad x y => cases h1
  have HF := Lib.hid hF0
  clear hv hn hk2 hS hF0
  cases h1 : takeS L s k with
  | ok a =>
    by_cases hgt : most < natS L s k
    · have q1 : cntV L s k most = 0 := by simp only [cntV, h1, if_pos hgt]
      have q2 : cntS L s k most e = .bad e ((a : Int) - k) := by simp only [cntS, h1, if_pos hgt]
      rw [q1, q2]
      clear q1 q2
      have hf := HF.out a h1
      rw [← hf]
      clear hf
      go_enter Tryd.func28, Tryd.ntmps28
      go_wp2_with (first
        | (go_at_call 26; with_reducible refine (numberQ k B hB (by omega) HV.out HR.out).mono ?_; rintro e w1 ⟨rfl, hR1, hg1⟩; rw [h1] at hR1)
        | (go_at_call 27; with_reducible refine (failQ e a0 he hR1).mono ?_; rintro e2 w2 ⟨rfl, hR2, hg2⟩; obtain ⟨y1, hW2, hy⟩ := Rd.badCells hR2; have hy2 := bad_ne hy; have c2 := rd2 hW2; have l2 := hW2.lt))
      go_ret
      exact ⟨rfl, hR2, Lib.grownBy_trans hg1 hg2⟩
    · have q1 : cntV L s k most = natS L s k := by simp only [cntV, h1, if_neg hgt]
      have q2 : cntS L s k most e = .ok a := by simp only [cntS, h1, if_neg hgt]
      rw [q1, q2]
      clear q1 q2
      go_enter Tryd.func28, Tryd.ntmps28
      go_wp2_with (go_at_call 26; with_reducible refine (numberQ k B hB (by omega) HV.out HR.out).mono ?_; rintro e w1 ⟨rfl, hR1, hg1⟩; rw [h1] at hR1; obtain ⟨x3, hW1, ha⟩ := hR1.okCells; have c2 := rd2 hW1; have l1 := hW1.lt)
      go_ret
      exact ⟨rfl, hR1, hg1⟩
  | bad x y =>
    have h0 : natS L s k = 0 := natS_bad h1
    have q1 : cntV L s k most = 0 := by simp only [cntV, h1]
    have q2 : cntS L s k most e = .bad x y := by simp only [cntS, h1]
    rw [q1, q2]
    clear q1 q2
    have H0 := Lib.hid h0
    clear h0
    go_enter Tryd.func28, Tryd.ntmps28
    go_wp2_with (go_at_call 26; with_reducible refine (numberQ k B hB (by omega) HV.out HR.out).mono ?_; rintro e w1 ⟨rfl, hR1, hg1⟩; rw [h1] at hR1; rw [H0.out]; obtain ⟨x3, hW1, ha⟩ := hR1.badCells; have ha2 := bad_ne ha; have c2 := rd2 hW1; have l1 := hW1.lt)
    go_ret
    exact ⟨rfl, hR1, hg1⟩
theorem number1Q (B : Nat) (hB : B ≤ w.heap.size) (hv : RowB w B g v L) (h : Rd T w g v s) : Calls Tryd.prog 26 #[.pointer (some ⟨g, 0, none⟩), .int .i64 1] w fun x w' =>
    ∃ u, x = .returned u ∧ Rd T w' g v (takeS L s 1) ∧ w.grownBy w' (some g) ∧ u = .int .u64 ((natS L s 1 : Nat) : Int) := (numberQ 1 B hB (by decide) hv h).mono (fun _ _ h => ⟨_, h.1, h.2.1, h.2.2, rfl⟩)
theorem number2Q (B : Nat) (hB : B ≤ w.heap.size) (hv : RowB w B g v L) (h : Rd T w g v s) : Calls Tryd.prog 26 #[.pointer (some ⟨g, 0, none⟩), .int .i64 2] w fun x w' =>
    ∃ u, x = .returned u ∧ Rd T w' g v (takeS L s 2) ∧ w.grownBy w' (some g) ∧ u = .int .u64 ((natS L s 2 : Nat) : Int) := (numberQ 2 B hB (by decide) hv h).mono (fun _ _ h => ⟨_, h.1, h.2.1, h.2.2, rfl⟩)
theorem number8Q (B : Nat) (hB : B ≤ w.heap.size) (hv : RowB w B g v L) (h : Rd T w g v s) : Calls Tryd.prog 26 #[.pointer (some ⟨g, 0, none⟩), .int .i64 8] w fun x w' =>
    ∃ u, x = .returned u ∧ Rd T w' g v (takeS L s 8) ∧ w.grownBy w' (some g) ∧ u = .int .u64 ((natS L s 8 : Nat) : Int) := (numberQ 8 B hB (by decide) hv h).mono (fun _ _ h => ⟨_, h.1, h.2.1, h.2.2, rfl⟩)
theorem manyNameQ (B : Nat) (hB : B ≤ w.heap.size) (hv : RowB w B g v L) (h : Rd T w g v s) : Calls Tryd.prog 28 #[.pointer (some ⟨g, 0, none⟩), .int .i64 1, .int .i64 16, .int .i64 8] w fun x w' =>
    ∃ u, x = .returned u ∧ Rd T w' g v (cntS L s 1 16 8) ∧ w.grownBy w' (some g) ∧ u = .int .i64 (cntV L s 1 16) := (manyQ 1 16 B 8 (by decide) hB (by decide) (by decide) hv h).mono (fun _ _ h => ⟨_, h.1, h.2.1, h.2.2, rfl⟩)
theorem manyParQ (B : Nat) (hB : B ≤ w.heap.size) (hv : RowB w B g v L) (h : Rd T w g v s) : Calls Tryd.prog 28 #[.pointer (some ⟨g, 0, none⟩), .int .i64 1, .int .i64 8, .int .i64 3] w fun x w' =>
    ∃ u, x = .returned u ∧ Rd T w' g v (cntS L s 1 8 3) ∧ w.grownBy w' (some g) ∧ u = .int .i64 (cntV L s 1 8) := (manyQ 1 8 B 3 (by decide) hB (by decide) (by decide) hv h).mono (fun _ _ h => ⟨_, h.1, h.2.1, h.2.2, rfl⟩)
theorem manyCodeQ (B : Nat) (hB : B ≤ w.heap.size) (hv : RowB w B g v L) (h : Rd T w g v s) : Calls Tryd.prog 28 #[.pointer (some ⟨g, 0, none⟩), .int .i64 2, .int .i64 1024, .int .i64 97] w fun x w' =>
    ∃ u, x = .returned u ∧ Rd T w' g v (cntS L s 2 1024 97) ∧ w.grownBy w' (some g) ∧ u = .int .i64 (cntV L s 2 1024) := (manyQ 2 1024 B 97 (by decide) hB (by decide) (by decide) hv h).mono (fun _ _ h => ⟨_, h.1, h.2.1, h.2.2, rfl⟩)
theorem manyThsQ (B : Nat) (hB : B ≤ w.heap.size) (hv : RowB w B g v L) (h : Rd T w g v s) : Calls Tryd.prog 28 #[.pointer (some ⟨g, 0, none⟩), .int .i64 1, .int .i64 16, .int .i64 3] w fun x w' =>
    ∃ u, x = .returned u ∧ Rd T w' g v (cntS L s 1 16 3) ∧ w.grownBy w' (some g) ∧ u = .int .i64 (cntV L s 1 16) := (manyQ 1 16 B 3 (by decide) hB (by decide) (by decide) hv h).mono (fun _ _ h => ⟨_, h.1, h.2.1, h.2.2, rfl⟩)
theorem manyFunQ (B : Nat) (hB : B ≤ w.heap.size) (hv : RowB w B g v L) (h : Rd T w g v s) : Calls Tryd.prog 28 #[.pointer (some ⟨g, 0, none⟩), .int .i64 1, .int .i64 32, .int .i64 3] w fun x w' =>
    ∃ u, x = .returned u ∧ Rd T w' g v (cntS L s 1 32 3) ∧ w.grownBy w' (some g) ∧ u = .int .i64 (cntV L s 1 32) := (manyQ 1 32 B 3 (by decide) hB (by decide) (by decide) hv h).mono (fun _ _ h => ⟨_, h.1, h.2.1, h.2.2, rfl⟩)
end Go.Proofs.YtjacfeohpofhpaaDoor

/-
  Layer 11 (pack): reading a function, in plain Lean; what lies in memory meanwhile.
-/
namespace Go.Proofs.YtjacfeohpofhpaaDoor
open Go.RowKit
set_option linter.unusedSimpArgs false
set_option linter.unusedVariables false
def thsS (L : List UInt8) : Nat → St → St × List Int
  | 0, s => (s, [])
  | n + 1, s => (takeS L (thsS L n s).1 8, (thsS L n s).2 ++ [i64 (natS L (thsS L n s).1 8)])
def psS (L : List UInt8) : Nat → St → St × List Sp
  | 0, s => (s, [])
  | n + 1, s => (takeS L (takeS L (psS L n s).1 8) 8, (psS L n s).2 ++ [⟨i64 (natS L (psS L n s).1 8), i64 (natS L (takeS L (psS L n s).1 8) 8)⟩])
def csS (L : List UInt8) : Nat → St → St × List InsD
  | 0, s => (s, [])
  | n + 1, s => (insS L (csS L n s).1, (csS L n s).2 ++ [insD L (csS L n s).1])
theorem psS_len (L : List UInt8) (n : Nat) (s : St) : (psS L n s).2.length = n := by induction n with | zero => rfl | succ n ih => simp [psS, ih]
theorem csS_len (L : List UInt8) (n : Nat) (s : St) : (csS L n s).2.length = n := by induction n with | zero => rfl | succ n ih => simp [csS, ih]
theorem thsS_len (L : List UInt8) (n : Nat) (s : St) : (thsS L n s).2.length = n := by induction n with | zero => rfl | succ n ih => simp [thsS, ih]
/-- The states behind a function's parts. -/
def fs1 (L : List UInt8) (s : St) : St := cntS L s 1 16 8
def fs2 (L : List UInt8) (s : St) : St := takeS L (fs1 L s) (cntV L s 1 16)
def fs3 (L : List UInt8) (s : St) : St := cntS L (fs2 L s) 1 8 3
def fps (L : List UInt8) (s : St) : St × List Sp := psS L (cntV L (fs2 L s) 1 8) (fs3 L s)
def fs5 (L : List UInt8) (s : St) : St := takeS L (fps L s).1 1
def fs6 (L : List UInt8) (s : St) : St := takeS L (fs5 L s) 2
def fs7 (L : List UInt8) (s : St) : St := cntS L (fs6 L s) 2 1024 97
def fcs (L : List UInt8) (s : St) : St × List InsD := csS L (cntV L (fs6 L s) 2 1024) (fs7 L s)
def fnm (L : List UInt8) (s : St) : ByteArray := ⟨(readL L (fs1 L s) (cntV L s 1 16)).toArray⟩
def funS (L : List UInt8) (s : St) : St := (fcs L s).1
def funD (L : List UInt8) (s : St) : FuncD := ⟨fnm L s, none, 0, (fps L s).2, i64 (natS L (fps L s).1 1), i64 (natS L (fs5 L s) 2), none, 0, (fcs L s).2⟩
theorem RowB.conv {w : World} {B g : Nat} {u : Value} {l : List UInt8} (h : RowB w B g u l) : (convert 27 9 u).run Tryd.prog w = .ok (.string ⟨l.toArray⟩) w := by
  obtain ⟨A, c, rfl, hc, hrow⟩ := h.row
  rcases l with _ | ⟨x, l⟩
  · cases A with
    | none => exact run_convert_bytes_nil (P := Tryd.prog) w 27 5 Tryd.underlying27 Tryd.underlying5 0 c 9 Tryd.underlying9
    | some a => exact run_convert_bytes_back (P := Tryd.prog) w 27 9 5 a c [] Tryd.underlying27 Tryd.underlying5 Tryd.underlying9 (fun j hj => by simp at hj)
  · obtain ⟨b, off, rfl, hb, hne, hcell⟩ := hrow (by simp)
    refine run_convert_bytes_back (P := Tryd.prog) w 27 9 5 ⟨b, off, none⟩ c (x :: l) Tryd.underlying27 Tryd.underlying5 Tryd.underlying9 (fun j hj => ?_)
    rw [Go.WideShapes.add_plain, hcell j hj, List.getD_eq_getElem?_getD, List.getElem?_eq_getElem hj]; rfl
abbrev fun0 : Array Value := #[.string { data := #[] }, .slice none 0 0, .int .i64 0, .int .i64 0, .slice none 0 0]
/-- What lies in memory while function runs. -/
structure FM (w : World) (T : TypeId) (g : Nat) (v : Value) (gf : Nat) (nm : ByteArray) (P C : Value) (r q : Int) (ps : List Sp) (cs : List InsD) (s : St) (W : World) : Prop where
  lg : g < w.heap.size
  grown : w.grownBy W (some g)
  rd : Rd T W g v s
  br : Whl W w.heap.size 45 fun0
  bf : Whl W gf 45 #[.string nm, P, .int .i64 r, .int .i64 q, C]
  lo : w.heap.size < gf
  op : W.ownsRow w.heap.size 50 2 P ps.length (rowsL ps.length 2 fun k => spV (nthS ps k))
  oc : W.ownsRow w.heap.size 52 5 C cs.length (rowsL cs.length 5 fun k => insV (nthX cs k))
theorem ne_some' {a b : Nat} (h : a < b) : some a ≠ some b := fun e => by injection e; omega
theorem own_ne {W : World} {B g sz n : Nat} {e : TypeId} {u : Value} {xs : List Value} (h : W.ownsRow B e sz u n xs) (hg : g < B) : u.ownBlock = none ∨ u.ownBlock ≠ some g := by
  cases hu : u.ownBlock with
  | none => exact .inl rfl
  | some k => exact .inr fun e => by injection e with e; have := (h.lt k hu).1; omega
variable {w W W' : World} {T : TypeId} {g gf : Nat} {v P C P2 C2 : Value} {nm : ByteArray} {r q : Int} {ps : List Sp} {cs : List InsD} {s s2 : St}
theorem grown_own {row : Option Nat} (h : w.grownBy W (some g)) (k : W.grownBy W' row) (hr : ∀ b, row = some b → w.heap.size ≤ b) : w.grownBy W' (some g) :=
  ⟨k.os.trans h.os, k.tape.trans h.tape, k.output.trans h.output, Nat.le_trans h.size k.size, fun b hb hne => (k.block b (Nat.lt_of_lt_of_le hb h.size) (fun e => by have := hr b e.symm; omega)).trans (h.block b hb hne)⟩
theorem FM.go (h : FM w T g v gf nm P C r q ps cs s W) (hR : Rd T W' g v s2) (hg : W.grownBy W' (some g)) : FM w T g v gf nm P C r q ps cs s2 W' :=
  ⟨h.lg, Lib.grownBy_trans h.grown hg, hR, h.br.grown hg (ne_some h.lg), h.bf.grown hg (ne_some (Nat.lt_trans h.lg h.lo)), h.lo, h.op.kept hg (own_ne h.op h.lg), h.oc.kept hg (own_ne h.oc h.lg)⟩
theorem FM.alloc (h : FM w T g v gf nm P C r q ps cs s W) (o : Obj) : FM w T g v gf nm P C r q ps cs s (W.alloc o) := h.go (h.rd.alloc o) (World.grownBy_alloc W o _)
theorem FM.drew (h : FM w T g v gf nm P C r q ps cs s W) : FM w T g v gf nm P C r q ps cs s W.drew := h.go h.rd.drew (Lib.Hx.grownBy_drew (Lib.Hx.grownBy_refl W _))
theorem Rd.own {B sz n : Nat} {e : TypeId} {u : Value} {xs : List Value} (h : Rd T W g v s) (ho : W.ownsRow B e sz u n xs) (hB : g < B) (hg : W.grownBy W' u.ownBlock) : Rd T W' g v s := by
  obtain ⟨a, x, p, hW, hS⟩ := h
  exact ⟨a, x, p, hW.grown hg (fun e => by have := (ho.lt g e.symm).1; omega), hS⟩
theorem FM.growP (h : FM w T g v gf nm P C r q ps cs s W) (hg : W.grownBy W' P.ownBlock) : W'.ownsRow w.heap.size 52 5 C cs.length (rowsL cs.length 5 fun k => insV (nthX cs k)) ∧
    w.grownBy W' (some g) ∧ Rd T W' g v s ∧ Whl W' w.heap.size 45 fun0 ∧ Whl W' gf 45 #[.string nm, P, .int .i64 r, .int .i64 q, C] :=
  ⟨h.oc.kept hg (own_apart h.oc h.op (by decide)), grown_own h.grown hg (fun b hb => (h.op.lt b hb).1), h.rd.own h.op h.lg hg, h.br.grown hg (own_whl h.op h.br (by decide)), h.bf.grown hg (own_whl h.op h.bf (by decide))⟩
theorem FM.growC (h : FM w T g v gf nm P C r q ps cs s W) (hg : W.grownBy W' C.ownBlock) : W'.ownsRow w.heap.size 50 2 P ps.length (rowsL ps.length 2 fun k => spV (nthS ps k)) ∧
    w.grownBy W' (some g) ∧ Rd T W' g v s ∧ Whl W' w.heap.size 45 fun0 ∧ Whl W' gf 45 #[.string nm, P, .int .i64 r, .int .i64 q, C] :=
  ⟨h.op.kept hg (own_apart h.op h.oc (by decide)), grown_own h.grown hg (fun b hb => (h.oc.lt b hb).1), h.rd.own h.oc h.lg hg, h.br.grown hg (own_whl h.oc h.br (by decide)), h.bf.grown hg (own_whl h.oc h.bf (by decide))⟩
/-- A store into the function's box. -/
theorem FM.put (h : FM w T g v gf nm P C r q ps cs s W) (i : Nat) (x : Value) {P' C' : Value} {r' q' : Int} (e : (#[.string nm, P, .int .i64 r, .int .i64 q, C] : Array Value).setIfInBounds i x = #[.string nm, P', .int .i64 r', .int .i64 q', C'])
    (hP : W.ownsRow w.heap.size 50 2 P' ps.length (rowsL ps.length 2 fun k => spV (nthS ps k))) (hC : W.ownsRow w.heap.size 52 5 C' cs.length (rowsL cs.length 5 fun k => insV (nthX cs k))) :
    FM w T g v gf nm P' C' r' q' ps cs s (W.setCell ⟨gf, i, none⟩ x) := by
  have hlo := h.lo
  refine ⟨h.lg, grown_own h.grown (row := some gf) (Lib.grownBy_setB (Lib.Hx.grownBy_refl W _) i x) (fun b hb => by injection hb; omega), h.rd.far (Nat.lt_trans h.lg hlo) _ _, h.br.far (by simp; omega) _, ?_, hlo, ?_, ?_⟩
  · have := h.bf.put i x
    rwa [e] at this
  · exact own_far hP x (fun e => own_whl hP h.bf (by decide) e.symm)
  · exact own_far hC x (fun e => own_whl hC h.bf (by decide) e.symm)
theorem FM.cells (h : FM w T g v gf nm P C r q ps cs s W) : W.cell? ⟨gf, 0, none⟩ = some (.string nm) ∧ W.cell? ⟨gf, 1, none⟩ = some P ∧ W.cell? ⟨gf, 2, none⟩ = some (.int .i64 r) ∧ W.cell? ⟨gf, 3, none⟩ = some (.int .i64 q) ∧ W.cell? ⟨gf, 4, none⟩ = some C := ins_cells h.bf
theorem FM.fz (h : FM w T g v gf nm P C r q ps cs s W) : W.frozen? ⟨gf, 1, none⟩ = false ∧ W.frozen? ⟨gf, 2, none⟩ = false ∧ W.frozen? ⟨gf, 3, none⟩ = false ∧ W.frozen? ⟨gf, 4, none⟩ = false := ⟨h.bf.frozen 1, h.bf.frozen 2, h.bf.frozen 3, h.bf.frozen 4⟩
end Go.Proofs.YtjacfeohpofhpaaDoor

/-
  Layer 11 (pack): the module of bytes, in plain Lean.
-/
namespace Go.Proofs.YtjacfeohpofhpaaDoor
open Go.RowKit
set_option linter.unusedSimpArgs false
set_option linter.unusedVariables false
/-- The mark's bytes. -/
def markB (i : Nat) : Nat := [83, 70, 84, 1].getD i 0
def mkS (L : List UInt8) : Nat → St
  | 0 => .ok 0
  | i + 1 => if natS L (mkS L i) 1 = markB i then takeS L (mkS L i) 1 else failS (takeS L (mkS L i) 1) 5 i
def fsS (L : List UInt8) : Nat → St → St × List FuncD
  | 0, s => (s, [])
  | n + 1, s => (funS L (fsS L n s).1, (fsS L n s).2 ++ [funD L (fsS L n s).1])
theorem fsS_len (L : List UInt8) (n : Nat) (s : St) : (fsS L n s).2.length = n := by induction n with | zero => rfl | succ n ih => simp [fsS, ih]
def ds1 (L : List UInt8) : St := cntS L (mkS L 4) 1 16 3
def dn1 (L : List UInt8) : Nat := cntV L (mkS L 4) 1 16
def dths (L : List UInt8) : St × List Int := thsS L (dn1 L) (ds1 L)
def ds2 (L : List UInt8) : St := cntS L (dths L).1 1 32 3
def dn2 (L : List UInt8) : Nat := cntV L (dths L).1 1 32
def dfs (L : List UInt8) : St × List FuncD := fsS L (dn2 L) (ds2 L)
def restS (L : List UInt8) : St → St
  | .ok a => if a < L.length then .bad 7 a else .ok a
  | .bad x y => .bad x y
/-- What Decode tells: OK and 0, or what is wrong and where. -/
def decS (L : List UInt8) : St := if 1048576 < L.length then .bad 4 1048576 else restS L (dfs L).1
def decM (L : List UInt8) : ModD := match decS L with
  | .ok _ => ⟨none, 0, (dths L).2, none, 0, (dfs L).2⟩
  | .bad _ _ => ⟨none, 0, [], none, 0, []⟩
def stE : St → Int
  | .ok _ => 0
  | .bad e _ => e
def stP : St → Int
  | .ok _ => 0
  | .bad _ p => p
def St.isOk : St → Bool
  | .ok _ => true
  | .bad _ _ => false
theorem failS_bad {s : St} {e p : Int} (h : s.isOk = false) : failS s e p = s := by cases s <;> simp_all [St.isOk, failS]
theorem takeS_bad {L : List UInt8} {s : St} {n : Nat} (h : s.isOk = false) : takeS L s n = s := by cases s <;> simp_all [St.isOk, takeS]
theorem cntS_bad {L : List UInt8} {s : St} {k m : Nat} {e : Int} (h : s.isOk = false) : cntS L s k m e = s := by cases s <;> simp_all [St.isOk, cntS, takeS]
theorem cntV_bad {L : List UInt8} {s : St} {k m : Nat} (h : s.isOk = false) : cntV L s k m = 0 := by cases s <;> simp_all [St.isOk, cntV, takeS]
theorem thsS_bad {L : List UInt8} {s : St} (h : s.isOk = false) : ∀ n, (thsS L n s).1 = s
  | 0 => rfl
  | n + 1 => by rw [thsS, thsS_bad h n, takeS_bad h]
theorem psS_bad {L : List UInt8} {s : St} (h : s.isOk = false) : ∀ n, (psS L n s).1 = s
  | 0 => rfl
  | n + 1 => by rw [psS, psS_bad h n, takeS_bad h, takeS_bad h]
theorem insS_bad {L : List UInt8} {s : St} (h : s.isOk = false) : insS L s = s := by rw [insS, takeS_bad h, takeS_bad h]
theorem csS_bad {L : List UInt8} {s : St} (h : s.isOk = false) : ∀ n, (csS L n s).1 = s
  | 0 => rfl
  | n + 1 => by rw [csS, csS_bad h n, insS_bad h]
theorem funS_bad {L : List UInt8} {s : St} (h : s.isOk = false) : funS L s = s := by
  have h1 : fs1 L s = s := cntS_bad h
  have h2 : fs2 L s = s := by rw [fs2, h1, takeS_bad h]
  have h3 : fs3 L s = s := by rw [fs3, h2, cntS_bad h]
  have h4 : (fps L s).1 = s := by rw [fps, h3, psS_bad h]
  have h5 : fs5 L s = s := by rw [fs5, h4, takeS_bad h]
  have h6 : fs6 L s = s := by rw [fs6, h5, takeS_bad h]
  have h7 : fs7 L s = s := by rw [fs7, h6, cntS_bad h]
  rw [funS, fcs, h7, csS_bad h]
theorem fsS_bad {L : List UInt8} {s : St} (h : s.isOk = false) : ∀ n, (fsS L n s).1 = s
  | 0 => rfl
  | n + 1 => by rw [fsS, fsS_bad h n, funS_bad h]
/-! ### One byte at a time -/
def StLe (L : List UInt8) : St → Prop
  | .ok a => a ≤ L.length
  | .bad _ _ => True
theorem takeS_le (L : List UInt8) (s : St) (n : Nat) : StLe L (takeS L s n) := by
  cases s with
  | ok a => simp only [takeS]; split <;> simp_all [StLe]
  | bad x y => trivial
theorem cntS_le (L : List UInt8) (s : St) (k m : Nat) (e : Int) : StLe L (cntS L s k m e) := by
  have h := takeS_le L s k
  unfold cntS
  split
  · rename_i a h1
    rw [h1] at h
    split
    · trivial
    · exact h
  · trivial
def oneS (L : List UInt8) : Nat → St → St × List UInt8
  | 0, s => (s, [])
  | n + 1, s => (takeS L (oneS L n s).1 1, (oneS L n s).2 ++ [UInt8.ofNat (natS L (oneS L n s).1 1)])
theorem oneS_len (L : List UInt8) (n : Nat) (s : St) : (oneS L n s).2.length = n := by induction n with | zero => rfl | succ n ih => simp [oneS, ih]
theorem natS_one {L : List UInt8} {a : Nat} (h : a + 1 ≤ L.length) : natS L (.ok a) 1 = (L.getD a 0).toNat := by
  rw [natS, readL, if_pos h, List.drop_eq_getElem_cons (by omega), List.take_succ_cons, List.take_zero]
  simp [leN, List.getD_eq_getElem?_getD, List.getElem?_eq_getElem (show a < L.length by omega)]
theorem take_snoc' {L : List UInt8} {a n : Nat} (h : a + (n + 1) ≤ L.length) : (L.drop a).take (n + 1) = (L.drop a).take n ++ [L.getD (a + n) 0] := by
  rw [List.take_add_one, List.getElem?_drop, List.getElem?_eq_getElem (show a + n < L.length by omega), List.getD_eq_getElem?_getD, List.getElem?_eq_getElem (show a + n < L.length by omega)]; rfl
theorem oneS_ok {L : List UInt8} {a : Nat} (ha : a ≤ L.length) : ∀ n, (oneS L n (.ok a)).1 = takeS L (.ok a) n ∧ (a + n ≤ L.length → (oneS L n (.ok a)).2 = readL L (.ok a) n)
  | 0 => ⟨by simp [oneS, takeS, ha], fun _ => by simp [oneS, readL, ha]⟩
  | n + 1 => by
    obtain ⟨h1, h2⟩ := oneS_ok ha n
    rcases Nat.lt_or_ge L.length (a + n) with q | q
    · have e : takeS L (.ok a) n = .bad 6 L.length := by rw [takeS, if_neg (by omega)]
      exact ⟨by rw [oneS, h1, e, takeS, takeS, if_neg (by omega)], fun h => by omega⟩
    · have e : takeS L (.ok a) n = .ok (a + n) := by rw [takeS, if_pos q]
      refine ⟨?_, fun h => ?_⟩
      · rw [oneS, h1, e]; simp only [takeS]
        by_cases h : a + (n + 1) ≤ L.length
        · rw [if_pos (by omega), if_pos h, Nat.add_assoc]
        · rw [if_neg (by omega), if_neg h]
      · rw [oneS, h1, e, h2 q, natS_one (by omega)]
        simp only [readL, if_pos q, if_pos h]
        rw [take_snoc' h, UInt8.ofNat_toNat]
theorem oneS_st {L : List UInt8} {s : St} (h : StLe L s) (n : Nat) : (oneS L n s).1 = takeS L s n := by
  cases s with
  | ok a => exact (oneS_ok h n).1
  | bad x y =>
    induction n with
    | zero => rfl
    | succ n ih => rw [oneS, ih]; rfl
theorem oneS_val {L : List UInt8} {s : St} (h : StLe L s) {n : Nat} (hk : (takeS L s n).isOk = true) : (oneS L n s).2 = readL L s n := by
  cases s with
  | ok a =>
    refine (oneS_ok h n).2 ?_
    simp only [takeS] at hk
    split at hk
    · assumption
    · cases hk
  | bad x y => cases hk
/-- An instruction as the reference reads it. -/
def insQS (L : List UInt8) (t : St) : St := takeS L (takeS L (takeS L (takeS L (takeS L t 1) 1) 1) 1) 8
def insQ (L : List UInt8) (t : St) : InsD := ⟨natS L t 1, natS L (takeS L t 1) 1, natS L (takeS L (takeS L t 1) 1) 1, natS L (takeS L (takeS L (takeS L t 1) 1) 1) 1, i64 (natS L (takeS L (takeS L (takeS L (takeS L t 1) 1) 1) 1) 8)⟩
theorem takeS_add {L : List UInt8} {t : St} (n m : Nat) (hm : 0 < m) : takeS L (takeS L t n) m = takeS L t (n + m) := by
  cases t with
  | ok a =>
    simp only [takeS]
    by_cases h : a + n ≤ L.length
    · rw [if_pos h]; simp only [takeS, Nat.add_assoc]
    · rw [if_neg h, if_neg (by omega)]
  | bad x y => rfl
theorem take2 (L : List UInt8) (t : St) : takeS L (takeS L t 1) 1 = takeS L t 2 := takeS_add 1 1 (by omega)
theorem take3 (L : List UInt8) (t : St) : takeS L (takeS L t 2) 1 = takeS L t 3 := takeS_add 2 1 (by omega)
theorem take4 (L : List UInt8) (t : St) : takeS L (takeS L t 3) 1 = takeS L t 4 := takeS_add 3 1 (by omega)
theorem insQS_eq (L : List UInt8) (t : St) : insQS L t = insS L t := by
  unfold insQS insS
  rw [take2 L t, take3 L t, take4 L t]
theorem insQ_eq {L : List UInt8} {t : St} (h : (insS L t).isOk = true) : insQ L t = insD L t := by
  cases t with
  | bad x y => cases h
  | ok a =>
    have h4 : a + 4 ≤ L.length := by
      unfold insS at h
      rw [takeS_add 4 8 (by omega)] at h
      simp only [takeS] at h
      split at h
      · omega
      · cases h
    have e : ∀ n, n ≤ 4 → takeS L (.ok a) n = .ok (a + n) := fun n hn => by rw [takeS, if_pos (by omega)]
    have r : ∀ i, i < 4 → (readL L (.ok a) 4).getD i 0 = L.getD (a + i) 0 := fun i hi => by
      simp only [readL, if_pos h4, List.getD_eq_getElem?_getD, List.getElem?_take, if_pos hi, List.getElem?_drop]
    unfold insQ insD
    rw [take2 L _, take3 L _, take4 L _, e 1 (by omega), e 2 (by omega), e 3 (by omega), r 0 (by omega), r 1 (by omega), r 2 (by omega), r 3 (by omega),
      natS_one (by omega), natS_one (by omega), natS_one (by omega), natS_one (by omega)]
    rfl
theorem bad_of {s : St} (h : ¬ s.isOk = true) : s.isOk = false := by simpa using h
theorem csS_stop {L : List UInt8} {s : St} {k : Nat} (h : (csS L k s).1.isOk = false) : ∀ n, k ≤ n → (csS L n s).1 = (csS L k s).1
  | 0, hn => by obtain rfl : k = 0 := by omega
                rfl
  | n + 1, hn => by
    rcases Nat.eq_or_lt_of_le hn with rfl | q
    · rfl
    · have := csS_stop h n (by omega)
      rw [csS, this, insS_bad h]
theorem fsS_stop {L : List UInt8} {s : St} {k : Nat} (h : (fsS L k s).1.isOk = false) : ∀ n, k ≤ n → (fsS L n s).1 = (fsS L k s).1
  | 0, hn => by obtain rfl : k = 0 := by omega
                rfl
  | n + 1, hn => by
    rcases Nat.eq_or_lt_of_le hn with rfl | q
    · rfl
    · have := fsS_stop h n (by omega)
      rw [fsS, this, funS_bad h]
theorem takeS_okof {L : List UInt8} {s : St} {n : Nat} (h : (takeS L s n).isOk = true) : s.isOk = true := by
  by_cases q : s.isOk = true
  · exact q
  · rw [takeS_bad (bad_of q)] at h; exact h
theorem cntS_okof {L : List UInt8} {s : St} {k m : Nat} {e : Int} (h : (cntS L s k m e).isOk = true) : s.isOk = true := by
  by_cases q : s.isOk = true
  · exact q
  · rw [cntS_bad (bad_of q)] at h; exact h
theorem psS_okof {L : List UInt8} {s : St} {n : Nat} (h : (psS L n s).1.isOk = true) : s.isOk = true := by
  by_cases q : s.isOk = true
  · exact q
  · rw [psS_bad (bad_of q)] at h; exact h
theorem csS_okof {L : List UInt8} {s : St} {n : Nat} (h : (csS L n s).1.isOk = true) : s.isOk = true := by
  by_cases q : s.isOk = true
  · exact q
  · rw [csS_bad (bad_of q)] at h; exact h
theorem insS_okof {L : List UInt8} {s : St} (h : (insS L s).isOk = true) : s.isOk = true := takeS_okof (takeS_okof h)
theorem fs2_okof {L : List UInt8} {s : St} (h : (funS L s).isOk = true) : (fs2 L s).isOk = true :=
  cntS_okof (psS_okof (takeS_okof (takeS_okof (cntS_okof (csS_okof h)))))
/-- A function as the reference reads it: right where nothing went wrong. -/
def nmQ (L : List UInt8) (s : St) : ByteArray := ⟨(oneS L (cntV L s 1 16) (fs1 L s)).2.toArray⟩
theorem nmQ_eq {L : List UInt8} {s : St} (h : (funS L s).isOk = true) : nmQ L s = fnm L s := by
  have hle : StLe L (fs1 L s) := cntS_le _ _ _ _ _
  rw [nmQ, fnm, oneS_val hle (fs2_okof h)]
end Go.Proofs.YtjacfeohpofhpaaDoor

/-
  Layer 11 (pack): what lies in memory while a function is read: steps for the walks of both readers.
-/
namespace Go.Proofs.YtjacfeohpofhpaaDoor
open Go.RowKit
set_option linter.unusedSimpArgs false
set_option linter.unusedVariables false
/-- The reader, and the result's box. -/
structure F0 (w : World) (T : TypeId) (g : Nat) (v : Value) (s : St) (W : World) : Prop where
  lg : g < w.heap.size
  grown : w.grownBy W (some g)
  rd : Rd T W g v s
  br : Whl W w.heap.size 45 fun0
variable {w W W' : World} {T : TypeId} {g gf k : Nat} {v P C P2 C2 : Value} {nm : ByteArray} {r q : Int} {ps : List Sp} {cs : List InsD} {s s2 : St} {L : List UInt8} {B : Nat}
theorem F0.go (h : F0 w T g v s W) (hR : Rd T W' g v s2) (hg : W.grownBy W' (some g)) : F0 w T g v s2 W' :=
  ⟨h.lg, Lib.grownBy_trans h.grown hg, hR, h.br.grown hg (ne_some h.lg)⟩
theorem F0.alloc (h : F0 w T g v s W) (o : Obj) : F0 w T g v s (W.alloc o) := h.go (h.rd.alloc o) (World.grownBy_alloc W o _)
theorem F0.drew (h : F0 w T g v s W) : F0 w T g v s W.drew := h.go h.rd.drew (Lib.Hx.grownBy_drew (Lib.Hx.grownBy_refl W _))
theorem F0.start (h : Rd T w g v s) : F0 w T g v s (w.alloc (.cells fun0 45)) := ⟨h.lt, World.grownBy_alloc w _ _, h.alloc _, Whl.new _ _ _⟩
theorem F0.size (h : F0 w T g v s W) : w.heap.size < W.heap.size := h.br.lt
theorem F0.set (h : F0 w T g v s W) (hk : w.heap.size < k) (i : Nat) (x : Value) : F0 w T g v s (W.setCell ⟨k, i, none⟩ x) :=
  ⟨h.lg, grown_own h.grown (row := some k) (Lib.grownBy_setB (Lib.Hx.grownBy_refl W _) i x) (fun b hb => by injection hb; omega), h.rd.far (Nat.lt_trans h.lg hk) _ _, h.br.far (by simp; omega) _⟩
/-- The function's box. -/
theorem F0.box (h : F0 w T g v s W) (hb : Whl W gf 45 #[.string nm, .slice none 0 0, .int .i64 0, .int .i64 0, .slice none 0 0]) (hlo : w.heap.size < gf) : FM w T g v gf nm (.slice none 0 0) (.slice none 0 0) 0 0 [] [] s W :=
  ⟨h.lg, h.grown, h.rd, h.br, hb, hlo, World.ownsRow_nil _ _ _ _, World.ownsRow_nil _ _ _ _⟩
theorem F0.boxNew (h : F0 w T g v s W) (nm : ByteArray) : FM w T g v W.heap.size nm (.slice none 0 0) (.slice none 0 0) 0 0 [] [] s (W.alloc (.cells #[.string nm, .slice none 0 0, .int .i64 0, .int .i64 0, .slice none 0 0] 45)) :=
  (h.alloc _).box (Whl.new _ _ _) h.size
theorem F0.boxOld (h : F0 w T g v s W) (nm : ByteArray) (hb : Whl W gf 45 fun0) (hlo : w.heap.size < gf) : FM w T g v gf nm (.slice none 0 0) (.slice none 0 0) 0 0 [] [] s
    (((((W.setCell ⟨gf, 0, none⟩ (.string nm)).setCell ⟨gf, 1, none⟩ (.slice none 0 0)).setCell ⟨gf, 2, none⟩ (.int .i64 0)).setCell ⟨gf, 3, none⟩ (.int .i64 0)).setCell ⟨gf, 4, none⟩ (.slice none 0 0)) := by
  refine (((((h.set hlo _ _).set hlo _ _).set hlo _ _).set hlo _ _).set hlo _ _).box ?_ hlo
  simpa using ((((hb.put 0 (.string nm)).put 1 (.slice none 0 0)).put 2 (.int .i64 0)).put 3 (.int .i64 0)).put 4 (.slice none 0 0)
theorem FM.bytes (hB : B ≤ w.heap.size) (hv : RowB w B g v L) (h : FM w T g v gf nm P C r q ps cs s W) : RowB W B g v L := hv.grown hB h.grown
theorem FM.size (hB : B ≤ w.heap.size) (h : FM w T g v gf nm P C r q ps cs s W) : B ≤ W.heap.size := Nat.le_trans hB h.grown.size
theorem FM.of {f : FuncId} {args : Array Value} {U : Value} (h : FM w T g v gf nm P C r q ps cs s W) (c : Calls Tryd.prog f args W fun x w' => ∃ u, x = .returned u ∧ Rd T w' g v s2 ∧ W.grownBy w' (some g) ∧ u = U) :
    Calls Tryd.prog f args W fun x w' => ∃ u, x = .returned u ∧ FM w T g v gf nm P C r q ps cs s2 w' ∧ u = U :=
  c.mono fun _ _ ⟨u, e, h1, h2, h3⟩ => ⟨u, e, h.go h1 h2, h3⟩
theorem rowsS_snoc (ps : List Sp) (x : Sp) : (rowsL (ps ++ [x]).length 2 fun k => spV (nthS (ps ++ [x]) k)) = (rowsL ps.length 2 fun k => spV (nthS ps k)) ++ [.int .i64 x.lo, .int .i64 x.hi] := by
  rw [List.length_append, List.length_singleton, rowsL_succ (by omega)]
  congr 1
  · exact rowsL_congr (by omega) (fun k hk => by simp [nthS, List.getElem?_append_left hk])
  · simp [List.range_succ, nthS, spV]
theorem rowsX_snoc (cs : List InsD) (x : InsD) : (rowsL (cs ++ [x]).length 5 fun k => insV (nthX (cs ++ [x]) k)) = (rowsL cs.length 5 fun k => insV (nthX cs k)) ++ [.int .i64 x.op, .int .i64 x.a, .int .i64 x.b, .int .i64 x.c, .int .i64 x.n] := by
  rw [List.length_append, List.length_singleton, rowsL_succ (by omega)]
  congr 1
  · exact rowsL_congr (by omega) (fun k hk => by simp [nthX, List.getElem?_append_left hk])
  · simp [List.range_succ, nthX, insV]
theorem FM.moreP {x : Sp} {o : Obj} (h : FM w T g v gf nm P C r q ps cs s W) (hg : (W.alloc o).grownBy W' P.ownBlock)
    (hown : W'.ownsRow w.heap.size 50 2 P2 (ps.length + 1) ((rowsL ps.length 2 fun k => spV (nthS ps k)) ++ [.int .i64 x.lo, .int .i64 x.hi])) :
    FM w T g v gf nm P2 C r q (ps ++ [x]) cs s (W'.setCell ⟨gf, 1, none⟩ P2) := by
  obtain ⟨oc, gr, rd, br, bf⟩ := (h.alloc o).growP hg
  have hlo := h.lo
  refine ⟨h.lg, grown_own gr (row := some gf) (Lib.grownBy_setB (Lib.Hx.grownBy_refl W' _) 1 P2) (fun b hb => by injection hb; omega), rd.far (Nat.lt_trans h.lg hlo) _ _, br.far (by simp; omega) _, by simpa using bf.put 1 P2, hlo, ?_, ?_⟩
  · rw [rowsS_snoc, List.length_append, List.length_singleton]
    exact own_far hown P2 (fun e => own_whl hown bf (by decide) e.symm)
  · exact own_far oc P2 (fun e => own_whl oc bf (by decide) e.symm)
theorem FM.moreC {x : InsD} {o : Obj} (h : FM w T g v gf nm P C r q ps cs s W) (hg : (W.alloc o).grownBy W' C.ownBlock)
    (hown : W'.ownsRow w.heap.size 52 5 C2 (cs.length + 1) ((rowsL cs.length 5 fun k => insV (nthX cs k)) ++ [.int .i64 x.op, .int .i64 x.a, .int .i64 x.b, .int .i64 x.c, .int .i64 x.n])) :
    FM w T g v gf nm P C2 r q ps (cs ++ [x]) s (W'.setCell ⟨gf, 4, none⟩ C2) := by
  obtain ⟨op, gr, rd, br, bf⟩ := (h.alloc o).growC hg
  have hlo := h.lo
  refine ⟨h.lg, grown_own gr (row := some gf) (Lib.grownBy_setB (Lib.Hx.grownBy_refl W' _) 4 C2) (fun b hb => by injection hb; omega), rd.far (Nat.lt_trans h.lg hlo) _ _, br.far (by simp; omega) _, by simpa using bf.put 4 C2, hlo, ?_, ?_⟩
  · exact own_far op C2 (fun e => own_whl op bf (by decide) e.symm)
  · rw [rowsX_snoc, List.length_append, List.length_singleton]
    exact own_far hown C2 (fun e => own_whl hown bf (by decide) e.symm)
/-- A number into the function's box. -/
theorem FM.putR (h : FM w T g v gf nm P C r q ps cs s W) (r' : Int) : FM w T g v gf nm P C r' q ps cs s (W.setCell ⟨gf, 2, none⟩ (.int .i64 r')) := h.put 2 _ rfl h.op h.oc
theorem FM.putQ (h : FM w T g v gf nm P C r q ps cs s W) (q' : Int) : FM w T g v gf nm P C r q' ps cs s (W.setCell ⟨gf, 3, none⟩ (.int .i64 q')) := h.put 3 _ rfl h.op h.oc
theorem FM.slices (h : FM w T g v gf nm P C r q ps cs s W) : (∃ A c, P = .slice A ps.length c) ∧ ∃ A c, C = .slice A cs.length c := by
  obtain ⟨A, c, e, _⟩ := own_slice h.op
  obtain ⟨A2, c2, e2, _⟩ := own_slice h.oc
  exact ⟨⟨A, c, e⟩, A2, c2, e2⟩
/-- The result's box is laid. -/
theorem FM.finish (h : FM w T g v gf nm P C r q ps cs s W) (a b c d e : Value) :
    (((((W.setCell ⟨w.heap.size, 0, none⟩ a).setCell ⟨w.heap.size, 1, none⟩ b).setCell ⟨w.heap.size, 2, none⟩ c).setCell ⟨w.heap.size, 3, none⟩ d).setCell ⟨w.heap.size, 4, none⟩ e).ownsRow w.heap.size 50 2 P ps.length (rowsL ps.length 2 fun k => spV (nthS ps k)) ∧
    (((((W.setCell ⟨w.heap.size, 0, none⟩ a).setCell ⟨w.heap.size, 1, none⟩ b).setCell ⟨w.heap.size, 2, none⟩ c).setCell ⟨w.heap.size, 3, none⟩ d).setCell ⟨w.heap.size, 4, none⟩ e).ownsRow w.heap.size 52 5 C cs.length (rowsL cs.length 5 fun k => insV (nthX cs k)) ∧
    Rd T (((((W.setCell ⟨w.heap.size, 0, none⟩ a).setCell ⟨w.heap.size, 1, none⟩ b).setCell ⟨w.heap.size, 2, none⟩ c).setCell ⟨w.heap.size, 3, none⟩ d).setCell ⟨w.heap.size, 4, none⟩ e) g v s ∧
    w.grownBy (((((W.setCell ⟨w.heap.size, 0, none⟩ a).setCell ⟨w.heap.size, 1, none⟩ b).setCell ⟨w.heap.size, 2, none⟩ c).setCell ⟨w.heap.size, 3, none⟩ d).setCell ⟨w.heap.size, 4, none⟩ e) (some g) := by
  have a1 : P.ownBlock ≠ some w.heap.size := fun e => own_whl h.op h.br (by decide) e.symm
  have a2 : C.ownBlock ≠ some w.heap.size := fun e => own_whl h.oc h.br (by decide) e.symm
  refine ⟨?_, ?_, ?_, ?_⟩
  · exact own_far (own_far (own_far (own_far (own_far h.op _ a1) _ a1) _ a1) _ a1) _ a1
  · exact own_far (own_far (own_far (own_far (own_far h.oc _ a2) _ a2) _ a2) _ a2) _ a2
  · exact ((((h.rd.far h.lg _ _).far h.lg _ _).far h.lg _ _).far h.lg _ _).far h.lg _ _
  · exact set_new (set_new (set_new (set_new (set_new h.grown _ _) _ _) _ _) _ _) _ _
end Go.Proofs.YtjacfeohpofhpaaDoor

/-
  Layer 11 (pack): steps for the walk of the reference's function.
-/
namespace Go.Proofs.YtjacfeohpofhpaaDoor
open Go.RowKit
set_option linter.unusedSimpArgs false
set_option linter.unusedVariables false
variable {w W W' : World} {T : TypeId} {g gf k : Nat} {v P C P2 C2 u : Value} {nm : ByteArray} {r q : Int} {ps : List Sp} {cs : List InsD} {s s2 : St} {L l : List UInt8} {B : Nat}
theorem FM.of' {f : FuncId} {args : Array Value} {U : Value} (h : FM w T g v gf nm P C r q ps cs s W) (c : Calls Tryd.prog f args W fun x w' => ∃ u, x = .returned u ∧ Rd T w' g v s2 ∧ W.grownBy w' (some g) ∧ u = U) :
    Calls Tryd.prog f args W fun x w' => ∃ u, x = .returned u ∧ FM w T g v gf nm P C r q ps cs s2 w' ∧ W.grownBy w' (some g) ∧ u = U :=
  c.mono fun _ _ ⟨u, e, h1, h2, h3⟩ => ⟨u, e, h.go h1 h2, h2, h3⟩
/-- A row of another type has grown. -/
theorem FM.other {e : TypeId} {sz n : Nat} {xs : List Value} (h : FM w T g v gf nm P C r q ps cs s W) (ho : W.ownsRow w.heap.size e sz u n xs) (h1 : 45 ≠ e) (h2 : 50 ≠ e) (h3 : 52 ≠ e) (hg : W.grownBy W' u.ownBlock) :
    FM w T g v gf nm P C r q ps cs s W' :=
  ⟨h.lg, grown_own h.grown hg (fun b hb => (ho.lt b hb).1), h.rd.own ho h.lg hg, h.br.grown hg (own_whl ho h.br h1), h.bf.grown hg (own_whl ho h.bf h1), h.lo, h.op.kept hg (own_apart h.op ho h2), h.oc.kept hg (own_apart h.oc ho h3)⟩
theorem FM.putN (h : FM w T g v gf nm P C r q ps cs s W) (nm' : ByteArray) : FM w T g v gf nm' P C r q ps cs s (W.setCell ⟨gf, 0, none⟩ (.string nm')) := by
  have hlo := h.lo
  refine ⟨h.lg, grown_own h.grown (row := some gf) (Lib.grownBy_setB (Lib.Hx.grownBy_refl W _) 0 _) (fun b hb => by injection hb; omega), h.rd.far (Nat.lt_trans h.lg hlo) _ _, h.br.far (by simp; omega) _, by simpa using h.bf.put 0 (.string nm'), hlo, ?_, ?_⟩
  · exact own_far h.op _ (fun e => own_whl h.op h.bf (by decide) e.symm)
  · exact own_far h.oc _ (fun e => own_whl h.oc h.bf (by decide) e.symm)
/-- A block that lies apart from all of these. -/
structure FarF (w : World) (g gf : Nat) (P C : Value) (k : Nat) : Prop where
  w : w.heap.size < k
  g : g < k
  gf : gf < k
  p : P.ownBlock ≠ some k
  c : C.ownBlock ≠ some k
theorem FM.farNew (h : FM w T g v gf nm P C r q ps cs s W) : FarF w g gf P C W.heap.size :=
  ⟨h.br.lt, h.rd.lt, h.bf.lt, fun e => by have := (h.op.lt _ e).2; omega, fun e => by have := (h.oc.lt _ e).2; omega⟩
theorem FM.setFar (h : FM w T g v gf nm P C r q ps cs s W) (f : FarF w g gf P C k) (i : Nat) (x : Value) : FM w T g v gf nm P C r q ps cs s (W.setCell ⟨k, i, none⟩ x) :=
  ⟨h.lg, grown_own h.grown (row := some k) (Lib.grownBy_setB (Lib.Hx.grownBy_refl W _) i x) (fun b hb => by injection hb; have := f.w; omega), h.rd.far f.g _ _, h.br.far (by have := f.w; simp; omega) _, h.bf.far (by have := f.gf; simp; omega) _, h.lo, own_far h.op x f.p, own_far h.oc x f.c⟩
theorem rowB_of_own {base : Nat} (h : W.ownsRow base 5 1 u l.length (U8s l)) (hg : g < base) (hl : l.length ≤ 1099511627776) : RowB W W.heap.size g u l := by
  have hlt := h.lt
  rcases h with ⟨hl2, ⟨rfl, h0⟩ | ⟨b, cap, cur, rfl, hb, hh, hnc, hm, hs, ht⟩⟩
  · have hl3 : l.length = 0 := by omega
    obtain rfl := List.eq_nil_of_length_eq_zero hl3
    exact ⟨hl, none, 0, rfl, Nat.le_refl _, fun h => absurd rfl h⟩
  · refine ⟨hl, some ⟨b, 0, none⟩, cap, rfl, by omega, fun _ => ⟨b, 0, rfl, (hlt b rfl).2, by omega, fun j hj => ?_⟩⟩
    have h2 : (U8s l)[j]? = some (u8V (l.getD j 0)) := by
      simp only [U8s, List.getElem?_map, List.getElem?_eq_getElem hj, Option.map_some, List.getD_eq_getElem?_getD, Option.getD_some]
    have hj2 : j < l.length * 1 := by omega
    rw [← ht, List.getElem?_take_of_lt hj2, Array.getElem?_toList] at h2
    rw [Nat.zero_add]
    simp only [World.cell?, hh]
    simpa using h2
theorem nat_u8 {n : Nat} (h : n < 256) : IntKind.u8.wrap (n : Int) = (((UInt8.ofNat n).toNat : Nat) : Int) := by
  rw [IntKind.wrap_u8, UInt8.toNat_ofNat', Nat.mod_eq_of_lt h]; omega
end Go.Proofs.YtjacfeohpofhpaaDoor

/-
  Layer 11 (pack): what lies in memory while a module is read: steps for the walks of both Decodes.
-/
namespace Go.Proofs.YtjacfeohpofhpaaDoor
open Go.RowKit
set_option linter.unusedSimpArgs false
set_option linter.unusedVariables false
variable {w W W' : World} {T : TypeId} {g gm k : Nat} {v TV FV TV2 FV2 : Value} {ths : List Int} {fs : List FuncD} {s s2 : St} {L : List UInt8} {B : Nat}
theorem RowB.at {g' : Nat} {l : List UInt8} (h : RowB w B g v l) (hg : B ≤ g') : RowB w B g' v l := by
  obtain ⟨A, c, e, hc, h'⟩ := h.row
  refine ⟨h.len, A, c, e, hc, fun h0 => ?_⟩
  obtain ⟨b, off, e2, hlt, hne, r⟩ := h' h0
  exact ⟨b, off, e2, hlt, by omega, r⟩
/-- A reader's type is none of those of a module's parts. -/
structure RdT (T : TypeId) : Prop where
  m : T ≠ 25
  i : T ≠ 2
  f : T ≠ 45
  s : T ≠ 50
  x : T ≠ 52
abbrev mod0 : Array Value := #[.slice none 0 0, .slice none 0 0]
/-- The reader, and the result's box. -/
structure D0 (w : World) (T : TypeId) (g : Nat) (v : Value) (s : St) (W : World) : Prop where
  below : Below w.heap.size w W
  rd : Rd T W g v s
  br : Whl W w.heap.size 25 mod0
  lo : w.heap.size < g
theorem D0.go (h : D0 w T g v s W) (hR : Rd T W' g v s2) (hg : W.grownBy W' (some g)) : D0 w T g v s2 W' :=
  ⟨h.below.grown hg h.below.size (fun k hk => by injection hk; have := h.lo; omega), hR, h.br.grown hg (ne_some' h.lo), h.lo⟩
theorem D0.alloc (h : D0 w T g v s W) (o : Obj) : D0 w T g v s (W.alloc o) := h.go (h.rd.alloc o) (World.grownBy_alloc W o _)
theorem D0.drew (h : D0 w T g v s W) : D0 w T g v s W.drew := h.go h.rd.drew (Lib.Hx.grownBy_drew (Lib.Hx.grownBy_refl W _))
theorem D0.start {v : Value} (w : World) (T : TypeId) : D0 w T (w.heap.size + 1) v (.ok 0) ((w.alloc (.cells mod0 25)).alloc (.cells #[v, .int .i64 0, .int .i64 0, .int .i64 0] T)) :=
  ⟨below_alloc (below_alloc (Below.refl _ _) _) _, ⟨0, 0, 0, Whl.new1 _ _ _ _, rfl, rfl, by omega⟩, (Whl.new _ _ _).alloc _, by omega⟩
theorem D0.bytes (hv : RowB w w.heap.size w.heap.size v L) (h : D0 w T g v s W) : RowB W w.heap.size g v L := (hv.at (Nat.le_of_lt h.lo)).below h.below
theorem D0.of {f : FuncId} {args : Array Value} {U : Value} (h : D0 w T g v s W) (c : Calls Tryd.prog f args W fun x w' => ∃ u, x = .returned u ∧ Rd T w' g v s2 ∧ W.grownBy w' (some g) ∧ u = U) :
    Calls Tryd.prog f args W fun x w' => ∃ u, x = .returned u ∧ D0 w T g v s2 w' ∧ W.grownBy w' (some g) ∧ u = U :=
  c.mono fun _ _ ⟨u, e, h1, h2, h3⟩ => ⟨u, e, h.go h1 h2, h2, h3⟩
/-- The reader, the result's box, the module's box and its rows. -/
structure DM (w : World) (T : TypeId) (g : Nat) (v : Value) (gm : Nat) (TV FV : Value) (ths : List Int) (fs : List FuncD) (s : St) (W : World) : Prop where
  d0 : D0 w T g v s W
  tk : RdT T
  bm : Whl W gm 25 #[TV, FV]
  lo : g < gm
  ot : W.ownsRow w.heap.size 2 1 TV ths.length (rowsL ths.length 1 fun k _ => .int .i64 (nthI ths k))
  of : W.ownsRow w.heap.size 45 5 FV fs.length (rowsL fs.length 5 fun k => funcV (nthF fs k))
  each : ∀ k, k < fs.length → OwnF W w.heap.size (nthF fs k)
theorem D0.box (h : D0 w T g v s W) (tk : RdT T) : DM w T g v W.heap.size (.slice none 0 0) (.slice none 0 0) [] [] s (W.alloc (.cells mod0 25)) :=
  ⟨h.alloc _, tk, Whl.new _ _ _, h.rd.lt, World.ownsRow_nil _ _ _ _, World.ownsRow_nil _ _ _ _, fun k hk => by simp at hk⟩
theorem rd_ne {u : Value} {e : TypeId} {sz n B : Nat} {xs : List Value} (h : Rd T W g v s) (ho : W.ownsRow B e sz u n xs) (ht : T ≠ e) : some g ≠ u.ownBlock := by
  obtain ⟨a, x, p, hW, hS⟩ := h
  exact own_whl ho hW ht
theorem DM.go (h : DM w T g v gm TV FV ths fs s W) (hR : Rd T W' g v s2) (hg : W.grownBy W' (some g)) : DM w T g v gm TV FV ths fs s2 W' :=
  ⟨h.d0.go hR hg, h.tk, h.bm.grown hg (ne_some h.lo), h.lo, h.ot.kept hg (.inr (rd_ne h.d0.rd h.ot h.tk.i).symm), h.of.kept hg (.inr (rd_ne h.d0.rd h.of h.tk.f).symm),
   fun k hk => ⟨(h.each k hk).params.kept hg (.inr (rd_ne h.d0.rd (h.each k hk).params h.tk.s).symm), (h.each k hk).code.kept hg (.inr (rd_ne h.d0.rd (h.each k hk).code h.tk.x).symm)⟩⟩
theorem DM.alloc (h : DM w T g v gm TV FV ths fs s W) (o : Obj) : DM w T g v gm TV FV ths fs s (W.alloc o) := h.go (h.d0.rd.alloc o) (World.grownBy_alloc W o _)
theorem DM.drew (h : DM w T g v gm TV FV ths fs s W) : DM w T g v gm TV FV ths fs s W.drew := h.go h.d0.rd.drew (Lib.Hx.grownBy_drew (Lib.Hx.grownBy_refl W _))
theorem DM.of' {f : FuncId} {args : Array Value} {U : Value} (h : DM w T g v gm TV FV ths fs s W) (c : Calls Tryd.prog f args W fun x w' => ∃ u, x = .returned u ∧ Rd T w' g v s2 ∧ W.grownBy w' (some g) ∧ u = U) :
    Calls Tryd.prog f args W fun x w' => ∃ u, x = .returned u ∧ DM w T g v gm TV FV ths fs s2 w' ∧ u = U :=
  c.mono fun _ _ ⟨u, e, h1, h2, h3⟩ => ⟨u, e, h.go h1 h2, h3⟩
theorem DM.bytes (hv : RowB w w.heap.size w.heap.size v L) (h : DM w T g v gm TV FV ths fs s W) : RowB W w.heap.size g v L := h.d0.bytes hv
theorem DM.size (h : DM w T g v gm TV FV ths fs s W) : w.heap.size ≤ W.heap.size := h.d0.below.size
theorem DM.cells (h : DM w T g v gm TV FV ths fs s W) : W.cell? ⟨gm, 0, none⟩ = some TV ∧ W.cell? ⟨gm, 1, none⟩ = some FV ∧ W.frozen? ⟨gm, 0, none⟩ = false ∧ W.frozen? ⟨gm, 1, none⟩ = false := Whl.two h.bm
theorem rowsI_snoc (ths : List Int) (x : Int) : (rowsL (ths ++ [x]).length 1 fun k _ => Value.int .i64 (nthI (ths ++ [x]) k)) = (rowsL ths.length 1 fun k _ => .int .i64 (nthI ths k)) ++ [.int .i64 x] := by
  rw [List.length_append, List.length_singleton, rowsL_succ (by omega)]
  congr 1
  · exact rowsL_congr (by omega) (fun k hk => by simp [nthI, List.getElem?_append_left hk])
  · simp [List.range_succ, nthI]
theorem rowsF_snoc (fs : List FuncD) (x : FuncD) : (rowsL (fs ++ [x]).length 5 fun k => funcV (nthF (fs ++ [x]) k)) = (rowsL fs.length 5 fun k => funcV (nthF fs k)) ++ (List.range 5).map (funcV x) := by
  rw [List.length_append, List.length_singleton, rowsL_succ (by omega)]
  congr 1
  · exact rowsL_congr (by omega) (fun k hk => by rw [nthF_app1 fs x hk])
  · rw [nthF_app2]
theorem grown_bm (h : DM w T g v gm TV FV ths fs s W) {u : Value} {e : TypeId} {sz n : Nat} {xs : List Value} (ho : W.ownsRow w.heap.size e sz u n xs) (h1 : 25 ≠ e) (h2 : T ≠ e) (hg : W.grownBy W' u.ownBlock) :
    D0 w T g v s W' ∧ Whl W' gm 25 #[TV, FV] := by
  have h3 := rd_ne h.d0.rd ho h2
  obtain ⟨a, x, p, hW, hS⟩ := h.d0.rd
  exact ⟨⟨h.d0.below.grown hg h.d0.below.size (fun k hk => (ho.lt k hk).1), ⟨a, x, p, hW.grown hg h3, hS⟩, h.d0.br.grown hg (own_whl ho h.d0.br h1), h.d0.lo⟩, h.bm.grown hg (own_whl ho h.bm h1)⟩
theorem D0.far (h : D0 w T g v s W) (hk : g < k) (i : Nat) (x : Value) : D0 w T g v s (W.setCell ⟨k, i, none⟩ x) :=
  ⟨h.below.setCell (by have := h.lo; simp; omega) _, h.rd.far hk _ _, h.br.far (by have := h.lo; simp; omega) _, h.lo⟩
theorem DM.moreT {x : Int} {o : Obj} (h : DM w T g v gm TV FV ths fs s W) (hg : (W.alloc o).grownBy W' TV.ownBlock)
    (hown : W'.ownsRow w.heap.size 2 1 TV2 (ths.length + 1) ((rowsL ths.length 1 fun k _ => .int .i64 (nthI ths k)) ++ [.int .i64 x])) :
    DM w T g v gm TV2 FV (ths ++ [x]) fs s (W'.setCell ⟨gm, 0, none⟩ TV2) := by
  have ha := h.alloc o
  obtain ⟨d0, bm⟩ := grown_bm ha ha.ot (by decide) h.tk.i hg
  have e1 := ha.of.kept hg (own_apart ha.of ha.ot (by decide))
  refine ⟨d0.far h.lo _ _, h.tk, by simpa using bm.put 0 TV2, h.lo, ?_, own_far e1 _ (fun e => own_whl e1 bm (by decide) e.symm), fun k hk => ?_⟩
  · rw [rowsI_snoc, List.length_append, List.length_singleton]
    exact own_far hown _ (fun e => own_whl hown bm (by decide) e.symm)
  · have p1 := (ha.each k hk).params.kept hg (own_apart (ha.each k hk).params ha.ot (by decide))
    have p2 := (ha.each k hk).code.kept hg (own_apart (ha.each k hk).code ha.ot (by decide))
    exact ⟨own_far p1 _ (fun e => own_whl p1 bm (by decide) e.symm), own_far p2 _ (fun e => own_whl p2 bm (by decide) e.symm)⟩
theorem DM.moreF {x : FuncD} {o : Obj} (h : DM w T g v gm TV FV ths fs s W) (hx : OwnF W w.heap.size x) (hg : (W.alloc o).grownBy W' FV.ownBlock)
    (hown : W'.ownsRow w.heap.size 45 5 FV2 (fs.length + 1) ((rowsL fs.length 5 fun k => funcV (nthF fs k)) ++ (List.range 5).map (funcV x))) :
    DM w T g v gm TV FV2 ths (fs ++ [x]) s (W'.setCell ⟨gm, 1, none⟩ FV2) := by
  have ha := h.alloc o
  obtain ⟨d0, bm⟩ := grown_bm ha ha.of (by decide) h.tk.f hg
  have e1 := ha.ot.kept hg (own_apart ha.ot ha.of (by decide))
  refine ⟨d0.far h.lo _ _, h.tk, by simpa using bm.put 1 FV2, h.lo, own_far e1 _ (fun e => own_whl e1 bm (by decide) e.symm), ?_, fun k hk => ?_⟩
  · rw [rowsF_snoc, List.length_append, List.length_singleton]
    exact own_far hown _ (fun e => own_whl hown bm (by decide) e.symm)
  · rcases Nat.lt_or_ge k fs.length with q | q
    · rw [nthF_app1 fs x q]
      exact ((ha.each k q).kept hg ha.of).far bm 1 _
    · obtain rfl : k = fs.length := by simp at hk; omega
      rw [nthF_app2]
      exact ((hx.alloc o).kept hg ha.of).far bm 1 _
theorem DM.slices (h : DM w T g v gm TV FV ths fs s W) : (∃ A c, TV = .slice A ths.length c) ∧ ∃ A c, FV = .slice A fs.length c := by
  obtain ⟨A, c, e, _⟩ := own_slice h.ot
  obtain ⟨A2, c2, e2, _⟩ := own_slice h.of
  exact ⟨⟨A, c, e⟩, A2, c2, e2⟩
/-- The result's box is laid. -/
theorem DM.finish (h : DM w T g v gm TV FV ths fs s W) (a b : Value) :
    Below w.heap.size w ((W.setCell ⟨w.heap.size, 0, none⟩ a).setCell ⟨w.heap.size, 1, none⟩ b) ∧
    ((W.setCell ⟨w.heap.size, 0, none⟩ a).setCell ⟨w.heap.size, 1, none⟩ b).ownsRow w.heap.size 2 1 TV ths.length (rowsL ths.length 1 fun k _ => .int .i64 (nthI ths k)) ∧
    ((W.setCell ⟨w.heap.size, 0, none⟩ a).setCell ⟨w.heap.size, 1, none⟩ b).ownsRow w.heap.size 45 5 FV fs.length (rowsL fs.length 5 fun k => funcV (nthF fs k)) ∧
    ∀ k, k < fs.length → OwnF ((W.setCell ⟨w.heap.size, 0, none⟩ a).setCell ⟨w.heap.size, 1, none⟩ b) w.heap.size (nthF fs k) :=
  ⟨(h.d0.below.setCell (by simp) _).setCell (by simp) _, own_far (own_far h.ot _ (fun e => own_whl h.ot h.d0.br (by decide) e.symm)) _ (fun e => own_whl h.ot h.d0.br (by decide) e.symm),
   own_far (own_far h.of _ (fun e => own_whl h.of h.d0.br (by decide) e.symm)) _ (fun e => own_whl h.of h.d0.br (by decide) e.symm),
   fun k hk => ((h.each k hk).far h.d0.br 0 _).far (h.d0.br.put 0 a) 1 _⟩
/-- What a reader of modules tells. -/
def DecOk (w : World) (L : List UInt8) (e : Ending) (w' : World) : Prop :=
  ∃ c : ModD, e = .returned (.tuple #[c.val, .int .i64 (stE (decS L)), .int .i64 (stP (decS L))]) ∧ SameM (decM L) c ∧ OwnM w' w.heap.size c ∧ Below w.heap.size w w'
theorem DM.ends (h : DM w T g v gm TV FV ths fs s W) : W.cell? ⟨w.heap.size, 0, none⟩ = some (.slice none 0 0) ∧ W.cell? ⟨w.heap.size, 1, none⟩ = some (.slice none 0 0) ∧ W.frozen? ⟨w.heap.size, 0, none⟩ = false ∧ W.frozen? ⟨w.heap.size, 1, none⟩ = false ∧ w.heap.size < W.heap.size :=
  ⟨h.d0.br.cell 0, h.d0.br.cell 1, h.d0.br.frozen 0, h.d0.br.frozen 1, h.d0.br.lt⟩
theorem rd3 {a b c d : Value} {w : World} {T : TypeId} {g : Nat} (h : Whl w g T #[a, b, c, d]) : w.cell? ⟨g, 3, none⟩ = some d := h.cell 3
theorem decS_of (h : ¬ 1048576 < L.length) : decS L = restS L (dfs L).1 := if_neg h
theorem decOk_bad {W : World} {e : Ending} (h : (decS L).isOk = false) (he : e = .returned (.tuple #[.agg #[.slice none 0 0, .slice none 0 0], .int .i64 (stE (decS L)), .int .i64 (stP (decS L))])) (hb : Below w.heap.size w W) : DecOk w L e W := by
  have hd : decM L = ⟨none, 0, [], none, 0, []⟩ := by
    unfold decM
    cases hs : decS L with
    | ok a => rw [hs] at h; cases h
    | bad x y => rfl
  exact ⟨⟨none, 0, [], none, 0, []⟩, he, by rw [hd]; exact ⟨rfl, rfl, fun k => rfl⟩, ⟨World.ownsRow_nil _ _ _ _, World.ownsRow_nil _ _ _ _, fun k hk => by simp at hk⟩, hb⟩
end Go.Proofs.YtjacfeohpofhpaaDoor
