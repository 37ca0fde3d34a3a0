/-
  Layer 2 (tree): the walk of TreeJoins.
-/
import Derived.Test.YtdddppmfeoebgaaDoorAwakeA
import Derived.Deep.AppendLies
import Derived.Deep.QuietTactic
import Derived.BigQuiet
import Derived.Lib.QuietBelow
namespace Go.Proofs.YtdddppmfeoebgaaDoor
open Go.RowKit
set_option linter.unusedSimpArgs false
set_option linter.unusedVariables false
set_option maxRecDepth 100000
section
variable {w : World} {p : PrD} {wa fa : Option Addr} {wc fc : Nat}
theorem check_re (hp : PrOk w w.heap.size p wa fa) (d : Nat) (os : Array Obj) :
    Calls Tryd.prog 12 #[prV p wa fa wc fc] (Sort.grow (redrawn w d) os) fun e w'' => e = .returned (faultV (checkD p)) ∧ ∃ q : Regrown, w'' = Sort.grow (redrawn w q.d) q.os :=
  Calls.regrown_of (checkP p wa fa wc fc w.heap.size _ (below_regrown w d os).size (hp.keep (below_regrown w d os) (Nat.le_refl _)))
theorem nodes_re (hp : PrOk w w.heap.size p wa fa) (d : Nat) (os : Array Obj) :
    Calls Tryd.prog 14 #[prV p wa fa wc fc] (Sort.grow (redrawn w d) os) fun e w'' => e = .returned (.int .i64 (nodesD p)) ∧ ∃ q : Regrown, w'' = Sort.grow (redrawn w q.d) q.os :=
  Calls.regrown_of (nodesP p wa fa wc fc w.heap.size _ (below_regrown w d os).size (hp.keep (below_regrown w d os) (Nat.le_refl _)))
end
theorem pr_wid {w : World} {B : Nat} {p : PrD} {wa fa : Option Addr} (h : PrOk w B p wa fa) : PrOk w B ⟨p.widen, []⟩ wa none :=
  ⟨h.wlen, h.widen, h.wwf, .mk (fun _ => ⟨⟨none, 0⟩, ⟨none, 0⟩⟩) (by simp) (fun h => absurd h (by simp)) (fun k hk => absurd hk (by simp))⟩
theorem pr_one {w : World} {B : Nat} {p : PrD} {wa : Option Addr} {b off : Nat} (h : PrOk w B p wa (some ⟨b, off, none⟩)) {k : Nat} (hk : k < p.funcs.length) : PrOk w B ⟨[], [nthF p.funcs k]⟩ none (some ⟨b, off + k * 3, none⟩) := by
  obtain @⟨hd, len, rows, each⟩ := h.funcs
  refine ⟨by simp, fun h => absurd h (by simp), fun k hk => absurd hk (by simp), .mk (fun _ => hd k) (by simp) (fun _ => ?_) fun j hj => ?_⟩
  · obtain ⟨b2, off2, e, hb, hc⟩ := rows (by omega)
    cases e
    refine ⟨b, off + k * 3, rfl, hb, fun j hj i hi => ?_⟩
    obtain rfl : j = 0 := by simpa using hj
    rw [Nat.zero_mul, Nat.add_zero]
    exact hc k hk i hi
  · obtain rfl : j = 0 := by simpa using hj
    exact each k hk
set_option maxHeartbeats 8000000 in
theorem joins_bad (p : PrD) (wa fa : Option Addr) (wc fc : Nat) (w : World) (hp : PrOk w w.heap.size p wa fa) (ht : Pow10 w) (he : ¬ (printD p).2.e = 0) :
    Calls Tryd.prog 7 #[prV p wa fa wc fc] w fun e w' => e = .returned (.bool true) ∧ Below w.heap.size w w' := by
  have HP := Lib.hid hp
  have HT := Lib.hid ht
  have HAW := Lib.hid (awakeL _ (ht.step (below_alloc (Below.refl _ _) (.cells (prC p wa fa wc fc) 26))))
  obtain ⟨hs, hor⟩ := print_bad he
  have HPR : Hid (∀ W, PrOk W W.heap.size p wa fa → Pow10 W → Calls Tryd.prog 20 #[prV p wa fa wc fc] W fun e w' => e = .returned (.tuple #[strV [], faultV (printD p).2]) ∧ Below W.heap.size W w') := Lib.hid fun W h1 h2 => by
    have := printP p wa fa wc fc _ W (Nat.le_refl _) h1 h2
    rwa [hs] at this
  clear hp ht hs
  revert he hor HPR
  generalize (printD p).2 = F
  intro he hor HPR
  have g0 : (F.e != 0) = true := by simpa using he
  have e0 : ((⟨([] : List UInt8).toArray⟩ : ByteArray).toList == []) = true := by rw [ByteArray.toList_eq]; rfl
  clear he
  by_cases hq : F = checkD p
  · have HCK := Lib.hid hq.symm
    clear hq hor
    go_enter Tryd.func7, Tryd.ntmps7
    go_upto_region 5 with (first
      | (go_at_call 11; go_must (refine HAW.out.mono ?_; rintro e w1 ⟨rfl, hb1⟩; have X1 := (Whl.new w 26 (prC p wa fa wc fc)).below' hb1; have B1 := below_step (below_alloc (Below.refl _ _) _) hb1; have HP1 := Lib.hid (HP.out.step B1); obtain ⟨q0, q1⟩ := X1.c2; have lx := X1.lt; have T1 := Lib.hid (HT.out.step B1)))
      | (go_at_call 20; go_must (refine (HPR.out w1 HP1.out T1.out).mono ?_; rintro e w2 ⟨rfl, hb2⟩; have B2 := below_step B1 hb2; have X2 := (X1.below' hb2).alloc (.cells #[.int .i64 F.e, .int .i64 (F.fn : Int), .int .i64 (F.at_ : Int)] 29); have R2 := Whl.new w2 29 #[.int .i64 F.e, .int .i64 (F.fn : Int), .int .i64 (F.at_ : Int)]; have HP2 := Lib.hid (HP1.out.step (below_alloc hb2 (.cells #[.int .i64 F.e, .int .i64 (F.fn : Int), .int .i64 (F.at_ : Int)] 29))))))
    have J0 := check_re (wc := wc) (fc := fc) HP2.out
    obtain ⟨q0, q1⟩ := X2.c2
    obtain ⟨r0, r1, r2⟩ := R2.c3
    have J0 : ∀ d os, Calls Tryd.prog 12 #[prV p wa fa wc fc] (Sort.grow (redrawn _ d) os) fun e w'' => e = .returned (faultV F) ∧ ∃ q : Regrown, w'' = Sort.grow (redrawn _ q.d) q.os := fun d os => by have := J0 d os; rwa [HCK.out] at this
    have B3 := below_alloc B2 (.cells #[.int .i64 F.e, .int .i64 (F.fn : Int), .int .i64 (F.at_ : Int)] 29)
    generalize (w2.alloc (.cells #[.int .i64 F.e, .int .i64 (F.fn : Int), .int .i64 (F.at_ : Int)] 29)) = V at J0 q0 q1 r0 r1 r2 B3 ⊢
    have q0' := cell_regrown q0
    have q1' := cell_regrown q1
    have r0' := cell_regrown r0
    have r1' := cell_regrown r1
    have r2' := cell_regrown r2
    clear q0 q1 r0 r1 r2 X1 X2 R2 lx
    refine wp_region_quiet_below (by kernel_rfl) (by kernel_rfl) ?_
    repeat (first | quiet_step (first | with_reducible exact J0 _ _) | go_big_quiet_step (first | with_reducible exact J0 _ _))
    refine wpQuiet_nil ?_
    intro _ hw'
    obtain ⟨⟨dq, osq⟩, hw''⟩ := hw'
    subst hw''
    go_wp2
    go_ret
    exact ⟨rfl, below_step B3 (below_regrown V dq osq)⟩
  · obtain rfl : F = ⟨4, 0, 0⟩ := hor.resolve_left hq
    clear hor
    have HF : Hid (∃ c, checkD p = c) := Lib.hid ⟨_, rfl⟩
    obtain ⟨c, hc⟩ := HF.out
    rw [hc] at hq
    have HCK := Lib.hid hc
    clear hc HF
    obtain ⟨ce, cf, ca⟩ := c
    cases h1 : ((4 : Int) == ce)
    · clear hq
      go_enter Tryd.func7, Tryd.ntmps7
      go_upto_region 5 with (first
        | (go_at_call 11; go_must (refine HAW.out.mono ?_; rintro e w1 ⟨rfl, hb1⟩; have X1 := (Whl.new w 26 (prC p wa fa wc fc)).below' hb1; have B1 := below_step (below_alloc (Below.refl _ _) _) hb1; have HP1 := Lib.hid (HP.out.step B1); obtain ⟨q0, q1⟩ := X1.c2; have lx := X1.lt; have T1 := Lib.hid (HT.out.step B1)))
        | (go_at_call 20; go_must (refine (HPR.out w1 HP1.out T1.out).mono ?_; rintro e w2 ⟨rfl, hb2⟩; have B2 := below_step B1 hb2; have X2 := (X1.below' hb2).alloc (.cells #[.int .i64 4, .int .i64 0, .int .i64 0] 29); have R2 := Whl.new w2 29 #[.int .i64 4, .int .i64 0, .int .i64 0]; have HP2 := Lib.hid (HP1.out.step (below_alloc hb2 (.cells #[.int .i64 4, .int .i64 0, .int .i64 0] 29))))))
      have J0 := check_re (wc := wc) (fc := fc) HP2.out
      obtain ⟨q0, q1⟩ := X2.c2
      obtain ⟨r0, r1, r2⟩ := R2.c3
      have J0 : ∀ d os, Calls Tryd.prog 12 #[prV p wa fa wc fc] (Sort.grow (redrawn _ d) os) fun e w'' => e = .returned (faultV ⟨ce, cf, ca⟩) ∧ ∃ q : Regrown, w'' = Sort.grow (redrawn _ q.d) q.os := fun d os => by have := J0 d os; rwa [HCK.out] at this
      have B3 := below_alloc B2 (.cells #[.int .i64 4, .int .i64 0, .int .i64 0] 29)
      generalize (w2.alloc (.cells #[.int .i64 4, .int .i64 0, .int .i64 0] 29)) = V at J0 q0 q1 r0 r1 r2 B3 ⊢
      have q0' := cell_regrown q0
      have q1' := cell_regrown q1
      have r0' := cell_regrown r0
      have r1' := cell_regrown r1
      have r2' := cell_regrown r2
      clear q0 q1 r0 r1 r2 X1 X2 R2 lx
      refine wp_region_quiet_below (by kernel_rfl) (by kernel_rfl) ?_
      repeat (first | quiet_step (first | with_reducible exact J0 _ _) | go_big_quiet_step (first | with_reducible exact J0 _ _))
      refine wpQuiet_nil ?_
      intro _ hw'
      obtain ⟨⟨dq, osq⟩, hw''⟩ := hw'
      subst hw''
      go_wp2
      go_ret
      exact ⟨rfl, below_step B3 (below_regrown V dq osq)⟩
    · cases h2 : ((0 : Int) == (cf : Int))
      · clear hq
        go_enter Tryd.func7, Tryd.ntmps7
        go_upto_region 5 with (first
          | (go_at_call 11; go_must (refine HAW.out.mono ?_; rintro e w1 ⟨rfl, hb1⟩; have X1 := (Whl.new w 26 (prC p wa fa wc fc)).below' hb1; have B1 := below_step (below_alloc (Below.refl _ _) _) hb1; have HP1 := Lib.hid (HP.out.step B1); obtain ⟨q0, q1⟩ := X1.c2; have lx := X1.lt; have T1 := Lib.hid (HT.out.step B1)))
          | (go_at_call 20; go_must (refine (HPR.out w1 HP1.out T1.out).mono ?_; rintro e w2 ⟨rfl, hb2⟩; have B2 := below_step B1 hb2; have X2 := (X1.below' hb2).alloc (.cells #[.int .i64 4, .int .i64 0, .int .i64 0] 29); have R2 := Whl.new w2 29 #[.int .i64 4, .int .i64 0, .int .i64 0]; have HP2 := Lib.hid (HP1.out.step (below_alloc hb2 (.cells #[.int .i64 4, .int .i64 0, .int .i64 0] 29))))))
        have J0 := check_re (wc := wc) (fc := fc) HP2.out
        obtain ⟨q0, q1⟩ := X2.c2
        obtain ⟨r0, r1, r2⟩ := R2.c3
        have J0 : ∀ d os, Calls Tryd.prog 12 #[prV p wa fa wc fc] (Sort.grow (redrawn _ d) os) fun e w'' => e = .returned (faultV ⟨ce, cf, ca⟩) ∧ ∃ q : Regrown, w'' = Sort.grow (redrawn _ q.d) q.os := fun d os => by have := J0 d os; rwa [HCK.out] at this
        have B3 := below_alloc B2 (.cells #[.int .i64 4, .int .i64 0, .int .i64 0] 29)
        generalize (w2.alloc (.cells #[.int .i64 4, .int .i64 0, .int .i64 0] 29)) = V at J0 q0 q1 r0 r1 r2 B3 ⊢
        have q0' := cell_regrown q0
        have q1' := cell_regrown q1
        have r0' := cell_regrown r0
        have r1' := cell_regrown r1
        have r2' := cell_regrown r2
        clear q0 q1 r0 r1 r2 X1 X2 R2 lx
        refine wp_region_quiet_below (by kernel_rfl) (by kernel_rfl) ?_
        repeat (first | quiet_step (first | with_reducible exact J0 _ _) | go_big_quiet_step (first | with_reducible exact J0 _ _))
        refine wpQuiet_nil ?_
        intro _ hw'
        obtain ⟨⟨dq, osq⟩, hw''⟩ := hw'
        subst hw''
        go_wp2
        go_ret
        exact ⟨rfl, below_step B3 (below_regrown V dq osq)⟩
      · cases h3 : ((0 : Int) == (ca : Int))
        · clear hq
          go_enter Tryd.func7, Tryd.ntmps7
          go_upto_region 5 with (first
            | (go_at_call 11; go_must (refine HAW.out.mono ?_; rintro e w1 ⟨rfl, hb1⟩; have X1 := (Whl.new w 26 (prC p wa fa wc fc)).below' hb1; have B1 := below_step (below_alloc (Below.refl _ _) _) hb1; have HP1 := Lib.hid (HP.out.step B1); obtain ⟨q0, q1⟩ := X1.c2; have lx := X1.lt; have T1 := Lib.hid (HT.out.step B1)))
            | (go_at_call 20; go_must (refine (HPR.out w1 HP1.out T1.out).mono ?_; rintro e w2 ⟨rfl, hb2⟩; have B2 := below_step B1 hb2; have X2 := (X1.below' hb2).alloc (.cells #[.int .i64 4, .int .i64 0, .int .i64 0] 29); have R2 := Whl.new w2 29 #[.int .i64 4, .int .i64 0, .int .i64 0]; have HP2 := Lib.hid (HP1.out.step (below_alloc hb2 (.cells #[.int .i64 4, .int .i64 0, .int .i64 0] 29))))))
          have J0 := check_re (wc := wc) (fc := fc) HP2.out
          obtain ⟨q0, q1⟩ := X2.c2
          obtain ⟨r0, r1, r2⟩ := R2.c3
          have J0 : ∀ d os, Calls Tryd.prog 12 #[prV p wa fa wc fc] (Sort.grow (redrawn _ d) os) fun e w'' => e = .returned (faultV ⟨ce, cf, ca⟩) ∧ ∃ q : Regrown, w'' = Sort.grow (redrawn _ q.d) q.os := fun d os => by have := J0 d os; rwa [HCK.out] at this
          have B3 := below_alloc B2 (.cells #[.int .i64 4, .int .i64 0, .int .i64 0] 29)
          generalize (w2.alloc (.cells #[.int .i64 4, .int .i64 0, .int .i64 0] 29)) = V at J0 q0 q1 r0 r1 r2 B3 ⊢
          have q0' := cell_regrown q0
          have q1' := cell_regrown q1
          have r0' := cell_regrown r0
          have r1' := cell_regrown r1
          have r2' := cell_regrown r2
          clear q0 q1 r0 r1 r2 X1 X2 R2 lx
          refine wp_region_quiet_below (by kernel_rfl) (by kernel_rfl) ?_
          repeat (first | quiet_step (first | with_reducible exact J0 _ _) | go_big_quiet_step (first | with_reducible exact J0 _ _))
          refine wpQuiet_nil ?_
          intro _ hw'
          obtain ⟨⟨dq, osq⟩, hw''⟩ := hw'
          subst hw''
          go_wp2
          go_ret
          exact ⟨rfl, below_step B3 (below_regrown V dq osq)⟩
        · exfalso
          simp only [beq_iff_eq] at h1 h2 h3
          apply hq
          rw [← h1, show cf = 0 by omega, show ca = 0 by omega]
theorem cntFs_take {l : List FnD} {k : Nat} (h : k < l.length) : cntFs (l.take (k + 1)) = cntFs (l.take k) + cntSs (nthF l k).body := cntFs_snoc h
set_option maxHeartbeats 8000000 in
theorem joins_ok (p : PrD) (wa fa : Option Addr) (wc fc : Nat) (w : World) (hp : PrOk w w.heap.size p wa fa) (lf : p.funcs.length ≤ fc) (mf : fc ≤ maxLen) (ht : Pow10 w) (he : (printD p).2.e = 0) :
    Calls Tryd.prog 7 #[prV p wa fa wc fc] w fun e w' => e = .returned (.bool true) ∧ Below w.heap.size w w' := by
  obtain ⟨hc, hpr, hlen⟩ := print_ok he
  have hce : (checkD p).e = 0 := by rw [hc]
  have hwl := hp.wlen
  have hfl : p.funcs.length * 64 ≤ 140737488351232 := by obtain @⟨_, a, _, _⟩ := hp.funcs; exact a
  have hno : cntFs p.funcs ≤ 4096 := by obtain ⟨h1, _⟩ := checkD_ok hce; exact (headD_ok h1).2.2.2.2
  have HE := Lib.hid he
  have HCE := Lib.hid hce
  have HNO := Lib.hid (nodes_ok hce)
  have HP := Lib.hid hp
  have HT := Lib.hid ht
  have HLF := Lib.hid lf
  unfold maxLen at mf
  have HAW := Lib.hid (awakeL _ (ht.step (below_alloc (Below.refl _ _) (.cells (prC p wa fa wc fc) 26))))
  have HPR : Hid (∀ W, PrOk W W.heap.size p wa fa → Pow10 W → Calls Tryd.prog 20 #[prV p wa fa wc fc] W fun e w' => e = .returned (.tuple #[strV (prT p), .agg #[.int .i64 0, .int .i64 0, .int .i64 0]]) ∧ Below W.heap.size W w') := Lib.hid fun W h1 h2 => by
    have := printP p wa fa wc fc _ W (Nat.le_refl _) h1 h2
    rwa [hpr] at this
  have HPW : Hid (∀ W, PrOk W W.heap.size p wa fa → Pow10 W → Calls Tryd.prog 20 #[.agg #[.slice wa p.widen.length wc, .slice none 0 0]] W fun e w' => e = .returned (.tuple #[strV (widT p.widen), .agg #[.int .i64 0, .int .i64 0, .int .i64 0]]) ∧ Below W.heap.size W w') := Lib.hid fun W h1 h2 => by
    have := printP ⟨p.widen, []⟩ wa none wc 0 _ W (Nat.le_refl _) (pr_wid h1) h2
    rwa [print_wid he] at this
  have HPO : Hid (∀ W b off k, k < p.funcs.length → PrOk W W.heap.size p wa (some ⟨b, off, none⟩) → Pow10 W → Calls Tryd.prog 20 #[.agg #[.slice none 0 0, .slice (some ⟨b, off + k * 3, none⟩) 1 1]] W fun e w' => e = .returned (.tuple #[strV (fnT (nthF p.funcs k)), .agg #[.int .i64 0, .int .i64 0, .int .i64 0]]) ∧ Below W.heap.size W w') := Lib.hid fun W b off k hk h1 h2 => by
    have := printP ⟨[], [nthF p.funcs k]⟩ none (some ⟨b, off + k * 3, none⟩) 0 1 _ W (Nat.le_refl _) (pr_one h1 hk) h2
    rwa [print_one he hk] at this
  have HNK : Hid (∀ W b off k, k < p.funcs.length → PrOk W W.heap.size p wa (some ⟨b, off, none⟩) → Calls Tryd.prog 14 #[.agg #[.slice none 0 0, .slice (some ⟨b, off + k * 3, none⟩) 1 1]] W fun e w' => e = .returned (.int .i64 (cntSs (nthF p.funcs k).body)) ∧ Below W.heap.size W w') := Lib.hid fun W b off k hk h1 => by
    have := nodesP ⟨[], [nthF p.funcs k]⟩ none (some ⟨b, off + k * 3, none⟩) 0 1 _ W (Nat.le_refl _) (pr_one h1 hk)
    rwa [nodes_one hce hk] at this
  have HNP : Hid (∀ W, PrOk W W.heap.size p wa fa → Calls Tryd.prog 14 #[prV p wa fa wc fc] W fun e w' => e = .returned (.int .i64 (cntFs p.funcs)) ∧ Below W.heap.size W w') := Lib.hid fun W h1 => by
    have := nodesP p wa fa wc fc _ W (Nat.le_refl _) h1
    rwa [nodes_ok hce] at this
  clear hp ht hc hpr he hce lf
  go_enter Tryd.func7, Tryd.ntmps7
  have tk0 := Lib.hid trivial
  go_wp2_with (first
    | (go_at_call 11; go_must (refine HAW.out.mono ?_; rintro e w1 ⟨rfl, hb1⟩; have X1 := (Whl.new w 26 (prC p wa fa wc fc)).below' hb1; have B1 := below_step (below_alloc (Below.refl _ _) _) hb1; have HP1 := Lib.hid (HP.out.step B1); obtain ⟨q0, q1⟩ := X1.c2; have lx := X1.lt; have T1 := Lib.hid (HT.out.step B1)))
    | (go_at_call 20; have u0 := tk0; clear tk0; go_must (refine (HPR.out w1 HP1.out T1.out).mono ?_; rintro e w2 ⟨rfl, hb2⟩; have B2 := below_alloc (below_step B1 hb2) (.cells #[.int .i64 0, .int .i64 0, .int .i64 0] 29); have X2 := (X1.below' hb2).alloc (.cells #[.int .i64 0, .int .i64 0, .int .i64 0] 29); have R2 := Whl.new w2 29 #[.int .i64 0, .int .i64 0, .int .i64 0]; have HP2 := Lib.hid (HP1.out.step (below_alloc hb2 (.cells #[.int .i64 0, .int .i64 0, .int .i64 0] 29))); have T2 := Lib.hid (HT.out.step B2); obtain ⟨q2, q3⟩ := X2.c2; have lx2 := X2.lt; have tk1 := Lib.hid trivial))
    | (go_at_call 20; have u1 := tk1; clear tk1; go_must (refine (HPW.out _ HP2.out T2.out).mono ?_; rintro e w3 ⟨rfl, hb3⟩; have B3 := below_alloc (below_step B2 hb3) (.cells #[.int .i64 0, .int .i64 0, .int .i64 0] 29); have X3 := (X2.below' hb3).alloc (.cells #[.int .i64 0, .int .i64 0, .int .i64 0] 29); have R3 := Whl.new w3 29 #[.int .i64 0, .int .i64 0, .int .i64 0]; obtain ⟨q4, q5⟩ := X3.c2; have lx3 := X3.lt)))
  go_loopw [5, 7, 45] (fun s n i W => ∃ k : Nat, k ≤ p.funcs.length ∧ i = .int .i64 k ∧ s = strV (widT p.widen ++ fnTs (p.funcs.take k)) ∧ n = .int .i64 (cntFs (p.funcs.take k) : Nat) ∧ Below w.heap.size w W ∧ Whl W w.heap.size 26 (prC p wa fa wc fc) ∧ Whl W w3.heap.size 29 #[.int .i64 0, .int .i64 0, .int .i64 0]) (fun _ _ i _ => p.funcs.length - (intOf i).toNat)
  case atStart => exact ⟨0, Nat.zero_le _, rfl, by simp [fnTs], by simp [cntFs], B3, X3, R3⟩
  case round =>
    obtain ⟨k, hk, rfl, rfl, rfl, hB, hX, hR⟩ := hrel
    obtain ⟨d0, d1⟩ := hX.c2
    obtain ⟨r0, r1, r2⟩ := hR.c3
    have lxr := hX.lt
    have lrr := hR.lt
    have hBk := Lib.hid hB
    have HXk := Lib.hid hX
    have HRk := Lib.hid hR
    clear hB hX hR q0 q1 q2 q3 q4 q5 lx lx2 lx3
    by_cases hlt : k < p.funcs.length
    · obtain ⟨hd, rows, _, _⟩ := HP.out.funcs.open_
      obtain ⟨b, off, rfl, _, _, _⟩ := rows w (Below.refl _ _) k hlt
      have hk1 : k + 1 ≤ fc := by have := HLF.out; omega
      have HPk := Lib.hid (HP.out.step hBk.out)
      have HTk := Lib.hid (HT.out.step hBk.out)
      have hsn := Lib.hid (fnTs_snoc hlt)
      have hct := Lib.hid (fnTs_cut p.funcs (k + 1))
      have hcs := Lib.hid (cntFs_take hlt)
      have hcl : cntFs (p.funcs.take k) + cntSs (nthF p.funcs k).body ≤ 4096 := by have := cntFs_cut p.funcs (k + 1); have := cntFs_take hlt; omega
      have hcl2 : cntFs (p.funcs.take k) ≤ 4096 := by omega
      clear rows
      have ht0 : (fnT (nthF p.funcs k)).isEmpty = false := by simp [fnT_pos]
      have hln : (widT p.widen ++ fnTs (p.funcs.take k)).length + (fnT (nthF p.funcs k)).length ≤ 65536 := by
        have e1 := congrArg List.length hct.out
        have e2 := congrArg List.length hsn.out
        rw [prT] at hlen
        simp only [List.length_append] at e1 e2 hlen ⊢
        omega
      have hy : ¬ 9223372036854775807 < (widT p.widen).length + (fnTs (p.funcs.take k)).length + (fnT (nthF p.funcs k)).length := by rw [List.length_append] at hln; omega
      have hfs : strV (widT p.widen ++ fnTs (p.funcs.take (k + 1))) = .string (⟨(widT p.widen ++ fnTs (p.funcs.take k)).toArray⟩ ++ ⟨(fnT (nthF p.funcs k)).toArray⟩) := by
        rw [hsn.out]; exact (str_v (by simp)).symm
      have HFS := Lib.hid hfs
      have HC1 := Lib.hid (HPO.out (wr.alloc (.cells #[.slice none 0 0, .slice (some ⟨b, off + k * 3, none⟩) 1 1] 26)) b off k hlt (HPk.out.step (below_alloc (Below.refl _ _) _)) (HTk.out.step (below_alloc (Below.refl _ _) _)))
      have HNK2 : Hid (∀ W, Below wr.heap.size wr W → Calls Tryd.prog 14 #[.agg #[.slice none 0 0, .slice (some ⟨b, off + k * 3, none⟩) 1 1]] W fun e w' => e = .returned (.int .i64 (cntSs (nthF p.funcs k).body)) ∧ Below W.heap.size W w') := Lib.hid fun W hW => HNK.out W b off k hlt (HPk.out.step hW)
      clear hfs hln HPO HNK HPW HPR HNP
      revert HC1 HNK2 HFS ht0 hy hcl hcs
      generalize fnT (nthF p.funcs k) = tf
      generalize cntSs (nthF p.funcs k).body = cf
      intro hcs hcl ht0 hy HFS HC1 HNK2
      go_wp2_with (first
        | (go_at_call 20; go_must (refine HC1.out.mono ?_; rintro e w4 ⟨rfl, hb4⟩; have B4 := below_alloc (below_step (below_alloc (Below.refl wr.heap.size wr) (.cells #[.slice none 0 0, .slice (some ⟨b, off + k * 3, none⟩) 1 1] 26)) hb4) (.cells #[.int .i64 0, .int .i64 0, .int .i64 0] 29); have X4 := ((Whl.new wr 26 #[.slice none 0 0, .slice (some ⟨b, off + k * 3, none⟩) 1 1]).below' hb4).alloc (.cells #[.int .i64 0, .int .i64 0, .int .i64 0] 29); obtain ⟨x0, x1⟩ := X4.c2; have lx4 := X4.lt))
        | (go_at_call 14; go_must (refine (HNK2.out _ B4).mono ?_; rintro e w5 ⟨rfl, hb5⟩; have B5 := below_step B4 hb5)))
      exact ⟨⟨k + 1, by omega, by go_num, by rw [HFS.out], by rw [hcs.out]; go_num, below_step hBk.out B5, HXk.out.below' B5, HRk.out.below' B5⟩, by simp [intOf]; omega⟩
    · obtain rfl : k = p.funcs.length := by omega
      have HPk := Lib.hid (HP.out.step hBk.out)
      have hst : ((⟨(widT p.widen ++ fnTs (p.funcs.take p.funcs.length)).toArray⟩ : ByteArray).toList == (⟨(prT p).toArray⟩ : ByteArray).toList) = true := by
        rw [List.take_length, prT]; simp
      have hst2 : (widT p.widen ++ fnTs (p.funcs.take p.funcs.length) == prT p) = true := by rw [List.take_length, prT]; simp
      have hcn : ((cntFs (p.funcs.take p.funcs.length) : Nat) : Int) = ((cntFs p.funcs : Nat) : Int) := by rw [List.take_length]
      rw [hcn]
      have HCN := Lib.hid (HNP.out wr HPk.out)
      clear hcn hlen
      go_wp2_with (go_at_call 14; go_must (refine HCN.out.mono ?_; rintro e w5 ⟨rfl, hb5⟩))
      go_ret
      exact ⟨rfl, below_step hBk.out hb5⟩
theorem joinsL (p : PrD) (wa fa : Option Addr) (wc fc : Nat) (w : World) (hp : PrOk w w.heap.size p wa fa) (lf : p.funcs.length ≤ fc) (mf : fc ≤ maxLen) (ht : Pow10 w) :
    Calls Tryd.prog 7 #[prV p wa fa wc fc] w fun e w' => e = .returned (.bool true) ∧ Below w.heap.size w w' := by
  by_cases he : (printD p).2.e = 0
  · exact joins_ok p wa fa wc fc w hp lf mf ht he
  · exact joins_bad p wa fa wc fc w hp ht he
end Go.Proofs.YtdddppmfeoebgaaDoor
