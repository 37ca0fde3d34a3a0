/-
  Layer 2 (tree): the walk of Check.
-/
import Derived.Test.YtdddppmfeoebgaaGreatDoorChkS
import Derived.Test.YtdddppmfeoebgaaGreatDoorHeadP
import Derived.BigQuiet
import Derived.RegionTactic
import Derived.Deep.QuietTactic
namespace Go.Proofs.YtdddppmfeoebgaaGreatDoor
open Go.RowKit
set_option linter.unusedSimpArgs false
set_option linter.unusedVariables false
theorem rises_iff : ∀ l : List Int, risesD l = true ↔ ∀ j, j + 1 < l.length → nthI l j < nthI l (j + 1)
  | [] => by simp [risesD]
  | [a] => by simp [risesD]
  | a :: b :: r => by
    rw [risesD, Bool.and_eq_true, decide_eq_true_eq, rises_iff (b :: r)]
    constructor
    · rintro ⟨h, k⟩ j hj
      cases j with
      | zero => exact h
      | succ j => exact k j (by simpa using hj)
    · intro h
      exact ⟨h 0 (by simp), fun j hj => h (j + 1) (by simpa using hj)⟩
theorem cnt_at : ∀ {l : List FnD} {k : Nat}, k < l.length → cntSs (nthF l k).body ≤ cntFs l := by
  intro l k h
  have e1 := cntFs_snoc h
  have e2 := cntFs_cut l (k + 1)
  omega
theorem fnsD_at {l : List FnD} {k : Nat} (h : k < l.length) : fnsD (l.drop k) k = if faceD (nthF l k) ≠ 0 then ⟨faceD (nthF l k), k, 0⟩ else if (chkSs (nthF l k).body 1).e ≠ 0 then ⟨(chkSs (nthF l k).body 1).e, k, (chkSs (nthF l k).body 1).n⟩ else fnsD (l.drop (k + 1)) (k + 1) := by
  rw [drop_get' ⟨.empty, [], []⟩ h, fnsD]; rfl
abbrev faultV (f : FaultD) : Value := .agg #[.int .i64 f.e, .int .i64 (f.fn : Int), .int .i64 (f.at_ : Int)]
structure CMem (w : World) (p : PrD) (wa fa : Option Addr) (wc fc : Nat) (wr : World) : Prop where
  below : Below w.heap.size w wr
  bm : Whl wr w.heap.size 25 (prC p wa fa wc fc)
  br : Whl wr (w.heap.size + 1) 29 #[.int .i64 0, .int .i64 0, .int .i64 0]
section
variable {w wr w1 : World} {p : PrD} {wa fa : Option Addr} {wc fc : Nat}
theorem CMem.alloc (h : CMem w p wa fa wc fc wr) (o : Obj) : CMem w p wa fa wc fc (wr.alloc o) := ⟨below_alloc h.below _, h.bm.alloc _, h.br.alloc _⟩
theorem below_drewN' {B : Nat} {w w' : World} (h : Below B w w') (n : Nat) : Below B w (w'.drewN n) := ⟨h.os, h.tape, h.output, h.size, h.block⟩
theorem CMem.drewN (h : CMem w p wa fa wc fc wr) (n : Nat) : CMem w p wa fa wc fc (wr.drewN n) := ⟨below_drewN' h.below n, h.bm, h.br⟩
theorem CMem.go (h : CMem w p wa fa wc fc wr) (hb : Below wr.heap.size wr w1) : CMem w p wa fa wc fc w1 := ⟨below_step h.below hb, h.bm.below' hb, h.br.below' hb⟩
theorem CMem.turn {g : Nat} (h : CMem w p wa fa wc fc wr) (k : Turn w.heap.size g wr w1) (hg : w.heap.size + 1 < g) : CMem w p wa fa wc fc w1 := ⟨h.below.trans k.below, k.keep _ _ _ (by omega) (by decide) h.bm, k.keep _ _ _ (by omega) (by decide) h.br⟩
theorem CMem.start (w : World) (p : PrD) (wa fa : Option Addr) (wc fc : Nat) : CMem w p wa fa wc fc ((w.alloc (.cells (prC p wa fa wc fc) 25)).alloc (.cells #[.int .i64 0, .int .i64 0, .int .i64 0] 29)) :=
  ⟨below_alloc (below_alloc (Below.refl _ _) _) _, (Whl.new _ _ _).alloc _, Whl.newAt (by simp) _ _⟩
end
set_option maxRecDepth 100000 in
set_option maxHeartbeats 8000000 in
theorem checkP (p : PrD) (wa fa : Option Addr) (wc fc B : Nat) (w : World) (hB : B ≤ w.heap.size) (hp : PrOk w B p wa fa) :
    Calls Tryz.prog 7 #[prV p wa fa wc fc] w fun e w' => e = .returned (faultV (checkD p)) ∧ Below w.heap.size w w' := by
  have hwl := hp.wlen
  have hfl : p.funcs.length * 64 ≤ 140737488351232 := by obtain @⟨_, a, _, _⟩ := hp.funcs; exact a
  have HP := Lib.hid hp
  clear hp
  by_cases q1 : 16 < p.widen.length
  · have n1 : decide ((16 : Int) < (p.widen.length : Int)) = true := by simp; omega
    have HE := Lib.hid (show checkD p = ⟨3, 0, 0⟩ by rw [checkD, headD, if_pos q1]; rfl)
    clear q1
    go_enter Tryz.func7, Tryz.ntmps7
    go_wp2
    all_goals (try simp only [Exit.inBlock, Exit.then])
    refine ret_of ?_ rfl
    simp [results, Tryz.results7, go_sem, HE.out]
    go_light
    exact (by repeat (first | exact Below.refl _ _ | with_reducible apply below_alloc | with_reducible refine Below.setCell ?_ (by dsimp only; omega) _))
  have n1 : decide ((16 : Int) < (p.widen.length : Int)) = false := by simp; omega
  have Q1 := Lib.hid q1; clear q1
  cases q2 : hasI p.widen (-9223372036854775808)
  rotate_left
  · have HE := Lib.hid (show checkD p = ⟨1, 0, 0⟩ by
      have e : headD p = 1 := by rw [headD, if_neg Q1.out, if_pos (show (p.widen.any (· == least)) = true from q2)]
      rw [checkD, e]; rfl)
    go_enter Tryz.func7, Tryz.ntmps7
    go_wp2_with (go_at_call 21; (with_reducible refine (hasP p.widen wa wc B (-9223372036854775808) _ HP.out.wlen (HP.out.widen.below (below_alloc (below_alloc (Below.refl _ _) _) _) hB)).mono ?_); rintro e w9 ⟨rfl, rfl⟩)
    all_goals (try simp only [Exit.inBlock, Exit.then])
    refine ret_of ?_ rfl
    simp [results, Tryz.results7, go_sem, HE.out]
    go_light
    exact (by repeat (first | exact Below.refl _ _ | with_reducible apply below_alloc | with_reducible refine Below.setCell ?_ (by dsimp only; omega) _))
  have Q2 : Hid (p.widen.any (· == least) = false) := Lib.hid q2
  go_enter Tryz.func7, Tryz.ntmps7
  go_wp2_with (go_at_call 21; (with_reducible refine (hasP p.widen wa wc B (-9223372036854775808) _ HP.out.wlen (HP.out.widen.below (below_alloc (below_alloc (Below.refl _ _) _) _) hB)).mono ?_); rintro e w9 ⟨rfl, rfl⟩)
  clear n1 q2
  go_loopw [3] (fun s wr => ∃ i : Nat, 1 ≤ i ∧ (i ≤ p.widen.length ∨ p.widen.length = 0 ∧ i = 1) ∧ s = .int .i64 i ∧ Hid (∀ j, j + 1 < i → nthI p.widen j < nthI p.widen (j + 1)) ∧ CMem w p wa fa wc fc wr) (fun s _ => p.widen.length - (intOf s).toNat)
  case atStart => exact ⟨1, Nat.le_refl _, by omega, rfl, Lib.hid (fun j hj => by omega), CMem.start w p wa fa wc fc⟩
  case round =>
    obtain ⟨i, hi1, hi, rfl, HD, hM⟩ := hrel
    obtain ⟨d0, d1⟩ := hM.bm.c2
    obtain ⟨r0, r1, r2⟩ := hM.br.c3
    have s0 := hM.br.frozen 0
    have s1 := hM.br.frozen 1
    have s2 := hM.br.frozen 2
    have lr := hM.br.lt
    have lp := hM.bm.lt
    by_cases hlt : i < p.widen.length
    · obtain ⟨tb, tof, hta, htb, htc⟩ := (HP.out.widen.below hM.below hB) (by omega)
      have p0 : wr.cell? ⟨tb, tof + i, none⟩ = some (.int .i64 (nthI p.widen i)) := by have := htc i hlt 0 (by omega); rw [Nat.mul_one, Nat.add_zero] at this; exact this
      have p1 : wr.cell? ⟨tb, tof + (i - 1), none⟩ = some (.int .i64 (nthI p.widen (i - 1))) := by have := htc (i - 1) (by omega) 0 (by omega); rw [Nat.mul_one, Nat.add_zero] at this; exact this
      have hsub : IntKind.i64.wrap ((i : Int) - 1) = ((i - 1 : Nat) : Int) := by simp [IntKind.wrap, IntKind.bits, IntKind.signed]; omega
      have hsub2 : wrap64 ((i : Int) - 1) = ((i - 1 : Nat) : Int) := by unfold wrap64; omega
      have h10 : (0 : Int) ≤ ((i - 1 : Nat) : Int) := by omega
      have h11 : ((i - 1 : Nat) : Int) < (p.widen.length : Int) := by omega
      clear htc
      rw [hta] at d0
      cases hok : decide (nthI p.widen i ≤ nthI p.widen (i - 1))
      · have HK : Hid (nthI p.widen (i - 1) < nthI p.widen i) := Lib.hid (by simpa using hok)
        go_wp2
        go_quiet (fail)
        go_wp2
        go_roundw
        case rel => exact ⟨i + 1, by omega, by omega, by go_num, Lib.hid (fun j hj => by
          rcases Nat.lt_or_ge (j + 1) i with q | q
          · exact HD.out j q
          · obtain rfl : j = i - 1 := by omega
            have := HK.out
            rwa [show i - 1 + 1 = i by omega]), hM.drewN _⟩
        case measure => simp only [intOf]; omega
      · have HE := Lib.hid (show checkD p = ⟨66, 0, 0⟩ by
          have e0 : risesD p.widen = false := by
            rw [Bool.eq_false_iff]; intro q
            have := (rises_iff _).1 q (i - 1) (by omega)
            rw [show i - 1 + 1 = i by omega] at this
            simp only [decide_eq_true_eq] at hok; omega
          have e : headD p = 66 := by rw [headD, if_neg Q1.out, Q2.out, if_neg (by simp), e0]; rfl
          rw [checkD, e]; rfl)
        go_wp2
        go_quiet (fail)
        go_wp2
        all_goals (try simp only [Exit.inBlock, Exit.then])
        refine ret_of ?_ rfl
        simp [results, Tryz.results7, go_sem, HE.out, r0, r1, r2, s0, s1, s2]
        go_light
        exact (by repeat (first | exact hM.below | exact Below.refl _ _ | with_reducible apply below_alloc | with_reducible apply below_drewN | with_reducible refine Below.setCell ?_ (by dsimp only; omega) _))
    · have Q3 : Hid (risesD p.widen = true) := Lib.hid ((rises_iff _).2 fun j hj => HD.out j (by omega))
      clear HD
      by_cases q4 : 32 < p.funcs.length
      · have n4 : decide ((32 : Int) < (p.funcs.length : Int)) = true := by simp; omega
        have HE := Lib.hid (show checkD p = ⟨3, 0, 0⟩ by
          have e : headD p = 3 := by rw [headD, if_neg Q1.out, Q2.out, if_neg (by simp), Q3.out, if_neg (by simp), if_pos (Or.inl q4)]
          rw [checkD, e]; rfl)
        clear q4
        go_wp2
        all_goals (try simp only [Exit.inBlock, Exit.then])
        refine ret_of ?_ rfl
        simp [results, Tryz.results7, go_sem, HE.out, r0, r1, r2, s0, s1, s2]
        go_light
        exact (by repeat (first | exact hM.below | exact Below.refl _ _ | with_reducible apply below_alloc | with_reducible apply below_drewN | with_reducible refine Below.setCell ?_ (by dsimp only; omega) _))
      have n4 : decide ((32 : Int) < (p.funcs.length : Int)) = false := by simp; omega
      have Q4 := Lib.hid q4; clear q4
      by_cases q5 : 4096 < cntFs p.funcs
      · have n5 : decide ((4096 : Int) < ((nodesD p : Nat) : Int)) = true := by unfold nodesD; simp; omega
        have HE := Lib.hid (show checkD p = ⟨3, 0, 0⟩ by
          have e : headD p = 3 := by rw [headD, if_neg Q1.out, Q2.out, if_neg (by simp), Q3.out, if_neg (by simp), if_pos (Or.inr q5)]
          rw [checkD, e]; rfl)
        clear q5
        go_wp2_with (go_at_call 8; go_must ((refine (nodesP p wa fa wc fc B _ (Nat.le_trans hB hM.below.size) (HP.out.keep hM.below hB)).mono ?_; rintro e w1 ⟨rfl, hb1⟩; have hM1 := hM.go hb1; obtain ⟨r10, r11, r12⟩ := hM1.br.c3; obtain ⟨p10, p11⟩ := hM1.bm.c2; have s10 := hM1.br.frozen 0; have s11 := hM1.br.frozen 1; have s12 := hM1.br.frozen 2; have lr1 := hM1.br.lt; have lp1 := hM1.bm.lt)))
        all_goals (try simp only [Exit.inBlock, Exit.then])
        refine ret_of ?_ rfl
        simp [results, Tryz.results7, go_sem, HE.out, r10, r11, r12, s10, s11, s12]
        go_light
        exact (by repeat (first | exact hM1.below | exact Below.refl _ _ | with_reducible apply below_alloc | with_reducible apply below_drewN | with_reducible refine Below.setCell ?_ (by dsimp only; omega) _))
      have n5 : decide ((4096 : Int) < ((nodesD p : Nat) : Int)) = false := by unfold nodesD; simp; omega
      have Q5 := Lib.hid q5; clear q5
      have HE0 := Lib.hid (show checkD p = fnsD p.funcs 0 by
        have e : headD p = 0 := by rw [headD, if_neg Q1.out, Q2.out, if_neg (by simp), Q3.out, if_neg (by simp), if_neg (fun h => h.elim Q4.out Q5.out)]
        rw [checkD, e]; rfl)
      obtain ⟨hd, rows, each, _⟩ := HP.out.funcs.open_
      have HR := Lib.hid rows
      have HF := Lib.hid each
      clear rows each
      go_wp2_with (go_at_call 8; go_must ((refine (nodesP p wa fa wc fc B _ (Nat.le_trans hB hM.below.size) (HP.out.keep hM.below hB)).mono ?_; rintro e w1 ⟨rfl, hb1⟩; have hM1 := hM.go hb1; obtain ⟨r10, r11, r12⟩ := hM1.br.c3; obtain ⟨p10, p11⟩ := hM1.bm.c2; have s10 := hM1.br.frozen 0; have s11 := hM1.br.frozen 1; have s12 := hM1.br.frozen 2; have lr1 := hM1.br.lt; have lp1 := hM1.bm.lt)))
      clear n4 n5 d0 d1 r0 r1 r2 s0 s1 s2 r10 r11 r12 s10 s11 s12 p10 p11 lr1 lp1 lr lp hM
      go_loopw [50] (fun s wr => ∃ k : Nat, k ≤ p.funcs.length ∧ s = .int .i64 k ∧ Hid (checkD p = fnsD (p.funcs.drop k) k) ∧ CMem w p wa fa wc fc wr) (fun s _ => p.funcs.length - (intOf s).toNat)
      case atStart => exact ⟨0, Nat.zero_le _, rfl, Lib.hid (by rw [HE0.out]; rfl), hM1⟩
      case round =>
        obtain ⟨k, hk, rfl, HD, hM⟩ := hrel
        obtain ⟨r0, r1, r2⟩ := hM.br.c3
        have s0 := hM.br.frozen 0
        have s1 := hM.br.frozen 1
        have s2 := hM.br.frozen 2
        have lr := hM.br.lt
        have lp := hM.bm.lt
        by_cases hlt : k < p.funcs.length
        · obtain ⟨b, off, rfl, c0, c1, c2⟩ := HR.out wr (hM.below.mono hB) k hlt
          have HN := Lib.hid (fnsD_at hlt)
          cases hf : (faceD (nthF p.funcs k) == 0)
          · have hf' : (faceD (nthF p.funcs k) != 0) = true := by rw [bne, hf]; rfl
            have HE := Lib.hid (show checkD p = ⟨faceD (nthF p.funcs k), k, 0⟩ by rw [HD.out, HN.out, if_pos (by simpa using hf)])
            clear hf
            go_wp2_with (go_at_call 22; go_must ((refine (headP (nthF p.funcs k) (hd k) B _ (by have := hM.below.size; simp; omega) ((HF.out k hlt).keep (below_alloc hM.below _) hB)).mono ?_; rintro e w1 ⟨rfl, hb1⟩; have M1 := (hM.alloc _).go hb1; have F1 := (Whl.new wr 44 (fnC (nthF p.funcs k) (hd k))).below' hb1; obtain ⟨x0, x1, x2⟩ := F1.c3; have lf1 := F1.lt; have lr1 := M1.br.lt; have lp1 := M1.bm.lt; obtain ⟨t0, t1, t2⟩ := M1.br.c3; have u0 := M1.br.frozen 0; have u1 := M1.br.frozen 1; have u2 := M1.br.frozen 2)))
            all_goals (try simp only [Exit.inBlock, Exit.then])
            refine ret_of ?_ rfl
            simp [results, Tryz.results7, go_sem, HE.out, t0, t1, t2, u0, u1, u2]
            go_light
            exact (by repeat (first | exact M1.below | exact Below.refl _ _ | with_reducible apply below_alloc | with_reducible apply below_drewN | with_reducible refine Below.setCell ?_ (by dsimp only; omega) _))
          · have hf' : (faceD (nthF p.funcs k) != 0) = false := by rw [bne, hf]; rfl
            have HN2 : Hid (faceD (nthF p.funcs k) = 0) := Lib.hid (by simpa using hf)
            clear hf
            cases hs : ((chkSs (nthF p.funcs k).body 1).e == 0)
            · have HE := Lib.hid (show checkD p = ⟨(chkSs (nthF p.funcs k).body 1).e, k, (chkSs (nthF p.funcs k).body 1).n⟩ by rw [HD.out, HN.out, HN2.out, if_neg (by simp), if_pos (by simpa using hs)])
              go_wp2_with (first | (go_at_call 22; go_must ((refine (headP (nthF p.funcs k) (hd k) B _ (by have := hM.below.size; simp; omega) ((HF.out k hlt).keep (below_alloc hM.below _) hB)).mono ?_; rintro e w1 ⟨rfl, hb1⟩; have M1 := (hM.alloc _).go hb1; have F1 := (Whl.new wr 44 (fnC (nthF p.funcs k) (hd k))).below' hb1; obtain ⟨x0, x1, x2⟩ := F1.c3; have lf1 := F1.lt; have lr1 := M1.br.lt; have lp1 := M1.bm.lt; obtain ⟨t0, t1, t2⟩ := M1.br.c3; have u0 := M1.br.frozen 0; have u1 := M1.br.frozen 1; have u2 := M1.br.frozen 2))) | (go_at_call 23; go_must ((refine (chkStP (nthF p.funcs k).body _ _ 1 _ _ 0 w.heap.size w1.heap.size _ (((HF.out k hlt).body.keep ((M1.alloc (.cells #[.int .i64 0, .int .i64 0] 69)).below.mono hB) (Nat.le_refl _)).more hB) M1.below.size (by omega) rfl (by have := cnt_at hlt; have := Q5.out; omega) rfl (Whl.new w1 _ _)).mono ?_; rintro e w2 ⟨rfl, hg2, ht2⟩; have M2 := (M1.alloc _).turn ht2 (by omega); obtain ⟨v0, v1, v2⟩ := M2.br.c3; have y0 := M2.br.frozen 0; have y1 := M2.br.frozen 1; have y2 := M2.br.frozen 2; obtain ⟨g0, g1⟩ := hg2.c2; have lg2 := hg2.lt; have lr2 := M2.br.lt; rw [Nat.zero_add] at g0))))
              go_region
              all_goals go_wp2
              all_goals (try simp only [Exit.inBlock, Exit.then])
              all_goals refine ret_of ?_ rfl
              all_goals simp [results, Tryz.results7, go_sem, HE.out, v0, v1, v2, y0, y1, y2]
              all_goals go_light
              all_goals refine Below.drew ?_
              all_goals exact (by repeat (first | exact M2.below | exact Below.refl _ _ | with_reducible apply below_alloc | with_reducible apply below_drewN | with_reducible refine Below.setCell ?_ (by dsimp only; omega) _))
            · have HS : Hid ((chkSs (nthF p.funcs k).body 1).e = 0) := Lib.hid (by simpa using hs)
              go_wp2_with (first | (go_at_call 22; go_must ((refine (headP (nthF p.funcs k) (hd k) B _ (by have := hM.below.size; simp; omega) ((HF.out k hlt).keep (below_alloc hM.below _) hB)).mono ?_; rintro e w1 ⟨rfl, hb1⟩; have M1 := (hM.alloc _).go hb1; have F1 := (Whl.new wr 44 (fnC (nthF p.funcs k) (hd k))).below' hb1; obtain ⟨x0, x1, x2⟩ := F1.c3; have lf1 := F1.lt; have lr1 := M1.br.lt; have lp1 := M1.bm.lt; obtain ⟨t0, t1, t2⟩ := M1.br.c3; have u0 := M1.br.frozen 0; have u1 := M1.br.frozen 1; have u2 := M1.br.frozen 2))) | (go_at_call 23; go_must ((refine (chkStP (nthF p.funcs k).body _ _ 1 _ _ 0 w.heap.size w1.heap.size _ (((HF.out k hlt).body.keep ((M1.alloc (.cells #[.int .i64 0, .int .i64 0] 69)).below.mono hB) (Nat.le_refl _)).more hB) M1.below.size (by omega) rfl (by have := cnt_at hlt; have := Q5.out; omega) rfl (Whl.new w1 _ _)).mono ?_; rintro e w2 ⟨rfl, hg2, ht2⟩; have M2 := (M1.alloc _).turn ht2 (by omega); obtain ⟨v0, v1, v2⟩ := M2.br.c3; have y0 := M2.br.frozen 0; have y1 := M2.br.frozen 1; have y2 := M2.br.frozen 2; obtain ⟨g0, g1⟩ := hg2.c2; have lg2 := hg2.lt; have lr2 := M2.br.lt; rw [Nat.zero_add] at g0))))
              go_roundw
              case rel => exact ⟨k + 1, by omega, by go_num, Lib.hid (by rw [HD.out, HN.out, HN2.out, if_neg (by simp), HS.out, if_neg (by simp)]), M2⟩
              case measure => simp only [intOf]; omega
        · obtain rfl : k = p.funcs.length := by omega
          have HE := Lib.hid (show checkD p = ⟨0, 0, 0⟩ by rw [HD.out, List.drop_length, fnsD])
          go_wp2
          all_goals (try simp only [Exit.inBlock, Exit.then])
          refine ret_of ?_ rfl
          simp [results, Tryz.results7, go_sem, HE.out, r0, r1, r2, s0, s1, s2]
          go_light
          exact (by repeat (first | exact hM.below | exact Below.refl _ _ | with_reducible apply below_alloc | with_reducible apply below_drewN | with_reducible refine Below.setCell ?_ (by dsimp only; omega) _))
end Go.Proofs.YtdddppmfeoebgaaGreatDoor
