/-
  Layer 2 (tree): the walks of the printer's body and stmt.
-/
import Derived.Test.YtdddppmfeoebgaaGreatDoorStmtA
import Derived.Deep.RegionHeld3
namespace Go.Proofs.YtdddppmfeoebgaaGreatDoor
open Go.RowKit
set_option linter.unusedSimpArgs false
set_option linter.unusedVariables false
set_option maxRecDepth 100000 in
set_option maxHeartbeats 8000000 in
theorem stmt_6 (N : Nat) (HBo : BodyAt N) (x : StD) (hk : x.kind = 6) (h : HdS) (q : Nat → Hd) (lv n B g : Nat) (l : List UInt8) (W : World) (hs : SizeOf.sizeOf x < N + 1) (hgo : GoodS lv x) (hin : StIn W B x h q) (hn : n ≤ 2 * lv) (hc : cntS x ≤ 4096) (hp : Prn W B g l (n : Int)) (hB : B ≤ W.heap.size) (ht : Tab W B) (hlen : l.length + (stT x n).length ≤ 1099511627776) :
    Calls Tryz.prog 34 #[.pointer (some ⟨g, 0, none⟩), .agg (stC x h)] W fun e w' => e = .returned (.tuple #[]) ∧ Prn w' B g (l ++ stT x n) (n : Int) ∧ Turn B g W w' := by
  obtain ⟨c2, z2, lg, low⟩ := hp.read
  have hlv : lv ≤ 32 := by obtain ⟨a, _⟩ := hgo; exact a
  have hE := stT_6 hk n
  have HE := Lib.hid hE
  rw [hE] at hlen
  have HLN := Lib.hid hlen
  have hcn := cntS_eq x
  have hga : GoodE x.a := by obtain ⟨_, _, _, _, _, a, _⟩ := hgo; exact a (by rw [hk]; rfl)
  have a0 : (x.a.kind != 0) = true := by simpa using kind_pos hga
  have hca : cntE x.a ≤ 4096 := by have := cntZ_good hga; omega
  have HGA := Lib.hid hga
  clear hga
  have HP := Lib.hid hp
  have HT := Lib.hid ht
  have HIN := Lib.hid hin
  have HGO := Lib.hid hgo
  have HB := Lib.hid HBo
  have b1 : (x.kind == 1) = false := by rw [hk]; rfl
  have b2 : (x.kind == 2) = false := by rw [hk]; rfl
  have b3 : (x.kind == 3) = false := by rw [hk]; rfl
  have b4 : (x.kind == 4) = false := by rw [hk]; rfl
  have b5 : (x.kind == 5) = false := by rw [hk]; rfl
  have b6 : (x.kind == 6) = true := by rw [hk]; rfl
  have HK := Lib.hid hk
  clear hE hlen hp ht hin hgo HBo hk c2 z2
  have hsb := body_size x
  have hse := els_size x
  have hsc := cases_size x
  have tk0 := Lib.hid trivial
  go_enter Tryz.func34, Tryz.ntmps34
  go_wp2_with (first | (go_at_call 57; have u0 := tk0; clear tk0; go_must (refine (textP x.a h.a B _ HGA.out ((HIN.out.ea.turn (((Turn.refl B g W).alloc hB _)))) (by simp; omega) hca ((HT.out.below (((Turn.refl B g W).alloc hB _)).below).pow)).mono ?_; rintro e w1 ⟨rfl, hb1⟩; have X1 := (Whl.new W 42 (stC x h)).below' hb1; have P1 := (HP.out.alloc _).go hb1; have T1 := (((Turn.refl B g W).alloc hB _)).go hB hb1; have s1 := X1.lt; have l1 := T1.size; obtain ⟨x0, x1, x2, x3, x4, x5, x6, x7, x8, x9, x10, x11, x12, x13⟩ := X1.cSt; have tk1 := Lib.hid trivial)) | (go_at_call 11; have u1 := tk1; clear tk1; go_must (refine (lineP [[115, 119, 105, 116, 99, 104, 32], exT x.a, [32, 123]] (w1.heap.size) 3 n _ B g _ (P1.alloc _) (by simp; omega) (Whl.newAt (by simp) _ _) (by have := HLN.out; simp only [List.length_append] at this; (try simp only [List.length_append]); omega) (by simp)).mono ?_; rintro e w2 ⟨rfl, P2, U2⟩; have T2 := (T1.alloc hB _).trans U2; have X2 := U2.keep _ _ _ (by omega) (by decide) (X1.alloc _); have s2 := X2.lt; have l2 := T2.size; obtain ⟨v2_0, v2_1, v2_2, v2_3, v2_4, v2_5, v2_6, v2_7, v2_8, v2_9, v2_10, v2_11, v2_12, v2_13⟩ := X2.cSt; have tk2 := Lib.hid trivial; obtain ⟨r2, y2, _, _⟩ := P2.read)))
  have W2 := Lib.hid (P2.deep ((n : Int) + 1))
  have HX2 := Lib.hid (X2.far (p := ⟨g, 2, none⟩) (by simp; omega) (.int .i64 ((n : Int) + 1)))
  have HT2 := Lib.hid (T2.put low 2 (.int .i64 ((n : Int) + 1)))
  have hcap := HIN.out.clen
  clear P2 X2 T2 U2 P1 X1 T1 x0 x1 x2 x3 x4 x5 x6 x7 x8 x9 x10 x11 x12 x13 v2_0 v2_1 v2_2 v2_3 v2_4 v2_5 v2_6 v2_7 v2_8 v2_9 v2_10 v2_11 v2_12 v2_13 r2 y2 hb1 s1 s2 l1 l2
  go_loopw [93] (fun i W' => ∃ j : Nat, j ≤ x.cases.length ∧ i = .int .i64 j ∧ Prn W' B g ((l ++ lineT n ([[115, 119, 105, 116, 99, 104, 32], exT x.a, [32, 123]] : List (List UInt8)).flatten) ++ caTs (x.cases.take j) (n + 1)) (((n + 1 : Nat)) : Int) ∧ Whl W' W.heap.size 42 (stC x h) ∧ Turn B g W W') (fun i _ => x.cases.length - (intOf i).toNat)
  case atStart => exact ⟨0, Nat.zero_le _, rfl, by simpa [caTs] using W2.out, HX2.out, HT2.out⟩
  case round =>
    obtain ⟨j, hj, rfl, hP, hX, hT⟩ := hrel
    obtain ⟨r3, y3, lg3, _⟩ := hP.read
    have l3 := hT.size
    have s3 := hX.lt
    have HPj := Lib.hid hP
    clear hP
    by_cases hlt : j < x.cases.length
    · obtain ⟨cb, coff, hca, d0, d1⟩ := (HIN.out.crow.turn hT).ca hlt
      have hsz : SizeOf.sizeOf (nthC x.cases j) < SizeOf.sizeOf x.cases := getD_size _ hlt
      have hsy := cbody_size (nthC x.cases j)
      have hsn := Lib.hid (caTs_snoc (d := n + 1) hlt)
      have hct := Lib.hid (caTs_cut x.cases (n + 1) (j + 1))
      have hci := Lib.hid (caT_in (nthC x.cases j) (n + 1))
      have hcc := cntC_eq (nthC x.cases j)
      have hc1 := cntCs_snoc hlt
      have hc2 := cntCs_cut x.cases (j + 1)
      have hcb : cntSs (nthC x.cases j).body ≤ 4096 := by omega
      have hni := HGO.out.cn j hlt
      have HY := Lib.hid (HGO.out.cases j hlt)
      have HBY := Lib.hid ((HIN.out.cbody j hlt))
      clear hcc hc1 hc2
      rw [hca]
      have tk4 := Lib.hid trivial
      go_wp2_with (first
        | (go_at_call 10; go_must (refine (numberP (nthC x.cases j).n _ hni (HT.out.below (hT.alloc hB _).below).pow).mono ?_; rintro e w4 ⟨rfl, hb4⟩; have P4 := (HPj.out.alloc (.cells (caC (nthC x.cases j) (q j)) 97)).go hb4; have T4 := (hT.alloc hB (.cells (caC (nthC x.cases j) (q j)) 97)).go hB hb4; have X4 := (hX.alloc _).below' hb4; have K4 := (Whl.new wr 97 (caC (nthC x.cases j) (q j))).below' hb4; have s4 := X4.lt; have l4 := T4.size; have k4 := K4.lt; obtain ⟨m40, m41⟩ := K4.c2))
        | (go_at_call 11; have u4 := tk4; clear tk4; go_must (refine (lineP [[99, 97, 115, 101, 32], numD (nthC x.cases j).n, [32, 123]] (w4.heap.size) 3 (n + 1) _ B g _ (P4.alloc _) (by simp; omega) (Whl.newAt (by simp) _ _) (by have e1 := congrArg List.length hct.out; have e2 := congrArg List.length hsn.out; have e3 := congrArg List.length hci.out; have := HLN.out; simp only [List.length_append] at this e1 e2 e3; (try simp only [List.length_append]); omega) (by simp)).mono ?_; rintro e w5 ⟨rfl, P5, U5⟩; have T5 := (T4.alloc hB _).trans U5; have X5 := U5.keep _ _ _ (by omega) (by decide) (X4.alloc _); have K5 := U5.keep _ _ _ (by omega) (by decide) (K4.alloc _); have s5 := X5.lt; have l5 := T5.size; have k5 := K5.lt; obtain ⟨m50, m51⟩ := K5.c2; have tk5 := Lib.hid trivial))
        | (go_at_call 13; go_must (refine (HB.out (nthC x.cases j).body (q j).a (q j).c (lv + 1) (n + 1) B g _ _ (by omega) HY.out (HBY.out.turn T5) (by omega) (by omega) hcb P5 (Nat.le_trans hB T5.size) (HT.out.below T5.below) (by have e1 := congrArg List.length hct.out; have e2 := congrArg List.length hsn.out; have e3 := congrArg List.length hci.out; have := HLN.out; simp only [List.length_append] at this e1 e2 e3; (try simp only [List.length_append]); omega)).mono ?_; rintro e w6 ⟨rfl, P6, U6⟩; have T6 := T5.trans U6; have X6 := U6.keep _ _ _ (by omega) (by decide) X5; have s6 := X6.lt; have l6 := T6.size))
        | (go_at_call 11; have u5 := tk5; clear tk5; go_must (refine (lineP [[125]] (w6.heap.size) 1 (n + 1) _ B g _ (P6.alloc _) (by simp; omega) (Whl.newAt (by simp) _ _) (by have e1 := congrArg List.length hct.out; have e2 := congrArg List.length hsn.out; have e3 := congrArg List.length hci.out; have := HLN.out; simp only [List.length_append] at this e1 e2 e3; (try simp only [List.length_append]); omega) (by simp)).mono ?_; rintro e w7 ⟨rfl, P7, U7⟩; have T7 := (T6.alloc hB _).trans U7; have X7 := U7.keep _ _ _ (by omega) (by decide) (X6.alloc _))))
      go_roundw
      case rel => exact ⟨j + 1, by omega, by go_num, by rw [hsn.out, hci.out]; simpa only [List.append_assoc] using P7, X7, T7⟩
      case measure => simp [intOf]; omega
    · obtain rfl : j = x.cases.length := by omega
      have hw : ∃ w4 : World, w4 = wr := ⟨_, rfl⟩
      obtain ⟨w4, rfl⟩ := hw
      have P4 : Prn w4 B g ((l ++ lineT n ([[115, 119, 105, 116, 99, 104, 32], exT x.a, [32, 123]] : List (List UInt8)).flatten) ++ caTs x.cases (n + 1)) (((n + 1 : Nat)) : Int) := by have := HPj.out; rwa [List.take_length] at this
      have T4 := hT
      have X4 := hX
      obtain ⟨v4_0, v4_1, v4_2, v4_3, v4_4, v4_5, v4_6, v4_7, v4_8, v4_9, v4_10, v4_11, v4_12, v4_13⟩ := X4.cSt
      clear hT hX HPj
      rcases Nat.eq_zero_or_pos x.els.length with he | he
      · have he0 : decide (0 < x.els.length) = false := by simpa using he
        have HE2 := HE.out
        rw [if_pos he] at HE2
        have HLN2 := HLN.out
        rw [if_pos he] at HLN2
        replace HE := Lib.hid HE2
        replace HLN := Lib.hid HLN2
        clear HE2 HLN2 he
        have tk4 := Lib.hid trivial
        go_wp2_with (first | (go_at_call 11; have u4 := tk4; clear tk4; go_must (refine (lineP [[125]] (w4.heap.size) 1 n _ B g _ ((P4.deep (n : Int)).alloc _) (by simp; omega) (Whl.newAt (by simp) _ _) (by have := HLN.out; simp only [List.length_append] at this; (try simp only [List.length_append]); omega) (by simp)).mono ?_; rintro e w5 ⟨rfl, P5, U5⟩; have T5 := ((T4.put low 2 _).alloc hB _).trans U5)))
        refine end_of ?_ rfl
        exact ⟨_, by simp [results, Tryz.results34, go_sem], rfl, by rw [HE.out]; simpa only [List.append_assoc, List.nil_append, List.append_nil] using P5, T5⟩
      · have he0 : decide (0 < x.els.length) = true := by simpa using he
        have HE2 := HE.out
        rw [if_neg (by omega)] at HE2
        have HLN2 := HLN.out
        rw [if_neg (by omega)] at HLN2
        replace HE := Lib.hid HE2
        replace HLN := Lib.hid HLN2
        clear HE2 HLN2 he
        have tk4 := Lib.hid trivial
        go_wp2_with (first | (go_at_call 11; have u4 := tk4; clear tk4; go_must (refine (lineP [[101, 108, 115, 101, 32, 123]] (w4.heap.size) 1 (n + 1) _ B g _ (P4.alloc _) (by simp; omega) (Whl.newAt (by simp) _ _) (by have := HLN.out; simp only [List.length_append] at this; (try simp only [List.length_append]); omega) (by simp)).mono ?_; rintro e w5 ⟨rfl, P5, U5⟩; have T5 := (T4.alloc hB _).trans U5; have X5 := U5.keep _ _ _ (by omega) (by decide) (X4.alloc _); have s5 := X5.lt; have l5 := T5.size; obtain ⟨v5_0, v5_1, v5_2, v5_3, v5_4, v5_5, v5_6, v5_7, v5_8, v5_9, v5_10, v5_11, v5_12, v5_13⟩ := X5.cSt; have tk5 := Lib.hid trivial)) | (go_at_call 13; have u5 := tk5; clear tk5; go_must (refine (HB.out x.els h.els.a h.els.c (lv + 1) (n + 1) B g _ _ (by omega) HGO.out.els (HIN.out.els.turn T5) (by omega) (by omega) (by omega) P5 (Nat.le_trans hB T5.size) (HT.out.below T5.below) (by have := HLN.out; simp only [List.length_append] at this; (try simp only [List.length_append]); omega)).mono ?_; rintro e w6 ⟨rfl, P6, U6⟩; have T6 := T5.trans U6; have X6 := U6.keep _ _ _ (by omega) (by decide) X5; have s6 := X6.lt; have l6 := T6.size; obtain ⟨v6_0, v6_1, v6_2, v6_3, v6_4, v6_5, v6_6, v6_7, v6_8, v6_9, v6_10, v6_11, v6_12, v6_13⟩ := X6.cSt; have tk6 := Lib.hid trivial)) | (go_at_call 11; have u6 := tk6; clear tk6; go_must (refine (lineP [[125]] (w6.heap.size) 1 (n + 1) _ B g _ (P6.alloc _) (by simp; omega) (Whl.newAt (by simp) _ _) (by have := HLN.out; simp only [List.length_append] at this; (try simp only [List.length_append]); omega) (by simp)).mono ?_; rintro e w7 ⟨rfl, P7, U7⟩; have T7 := (T6.alloc hB _).trans U7; have X7 := U7.keep _ _ _ (by omega) (by decide) (X6.alloc _); have s7 := X7.lt; have l7 := T7.size; obtain ⟨v7_0, v7_1, v7_2, v7_3, v7_4, v7_5, v7_6, v7_7, v7_8, v7_9, v7_10, v7_11, v7_12, v7_13⟩ := X7.cSt; have tk7 := Lib.hid trivial; obtain ⟨r7, y7, _, _⟩ := P7.read)) | (go_at_call 11; have u7 := tk7; clear tk7; go_must (refine (lineP [[125]] (w7.heap.size) 1 n _ B g _ ((P7.deep (n : Int)).alloc _) (by simp; omega) (Whl.newAt (by simp) _ _) (by have := HLN.out; simp only [List.length_append] at this; (try simp only [List.length_append]); omega) (by simp)).mono ?_; rintro e w8 ⟨rfl, P8, U8⟩; have T8 := ((T7.put low 2 _).alloc hB _).trans U8)))
        refine end_of ?_ rfl
        exact ⟨_, by simp [results, Tryz.results34, go_sem], rfl, by rw [HE.out]; simpa only [List.append_assoc, List.nil_append, List.append_nil] using P8, T8⟩
end Go.Proofs.YtdddppmfeoebgaaGreatDoor
