/-
  Layer 2 (tree): the walks of the printer's body and stmt.
-/
import Derived.Test.YtdddppmfeoebgaaGreatDoorStmtA
import Derived.Deep.RegionHeld3
namespace Go.Proofs.YtdddppmfeoebgaaGreatDoor
open Go.RowKit
set_option linter.unusedSimpArgs false
set_option linter.unusedVariables false
set_option maxRecDepth 100000 in
set_option maxHeartbeats 8000000 in
theorem stmt_5 (N : Nat) (HBo : BodyAt N) (x : StD) (hk : x.kind = 5) (h : HdS) (q : Nat → Hd) (lv n B g : Nat) (l : List UInt8) (W : World) (hs : SizeOf.sizeOf x < N + 1) (hgo : GoodS lv x) (hin : StIn W B x h q) (hn : n ≤ 2 * lv) (hc : cntS x ≤ 4096) (hp : Prn W B g l (n : Int)) (hB : B ≤ W.heap.size) (ht : Tab W B) (hlen : l.length + (stT x n).length ≤ 1099511627776) :
    Calls Tryz.prog 34 #[.pointer (some ⟨g, 0, none⟩), .agg (stC x h)] W fun e w' => e = .returned (.tuple #[]) ∧ Prn w' B g (l ++ stT x n) (n : Int) ∧ Turn B g W w' := by
  obtain ⟨c2, z2, lg, low⟩ := hp.read
  have hlv : lv ≤ 32 := by obtain ⟨a, _⟩ := hgo; exact a
  have hE := stT_5 hk n
  have HE := Lib.hid hE
  rw [hE] at hlen
  have HLN := Lib.hid hlen
  have hcn := cntS_eq x
  have hga : GoodE x.a := by obtain ⟨_, _, _, _, _, a, _⟩ := hgo; exact a (by rw [hk]; rfl)
  have a0 : (x.a.kind != 0) = true := by simpa using kind_pos hga
  have hca : cntE x.a ≤ 4096 := by have := cntZ_good hga; omega
  have HGA := Lib.hid hga
  clear hga
  have HP := Lib.hid hp
  have HT := Lib.hid ht
  have HIN := Lib.hid hin
  have HGO := Lib.hid hgo
  have HB := Lib.hid HBo
  have b1 : (x.kind == 1) = false := by rw [hk]; rfl
  have b2 : (x.kind == 2) = false := by rw [hk]; rfl
  have b3 : (x.kind == 3) = false := by rw [hk]; rfl
  have b4 : (x.kind == 4) = false := by rw [hk]; rfl
  have b5 : (x.kind == 5) = true := by rw [hk]; rfl
  have HK := Lib.hid hk
  clear hE hlen hp ht hin hgo HBo hk c2 z2
  have hsb := body_size x
  have hse := els_size x
  have hsc := cases_size x
  rcases Nat.eq_zero_or_pos x.els.length with he | he
  · have he0 : decide (0 < x.els.length) = false := by simpa using he
    replace HE := Lib.hid HE.out
    have HE2 := HE.out
    rw [if_pos he] at HE2
    have HLN2 := HLN.out
    rw [if_pos he] at HLN2
    replace HE := Lib.hid HE2
    replace HLN := Lib.hid HLN2
    clear HE2 HLN2 he
    have tk0 := Lib.hid trivial
    go_enter Tryz.func34, Tryz.ntmps34
    go_wp2_with (first | (go_at_call 57; have u0 := tk0; clear tk0; go_must (refine (textP x.a h.a B _ HGA.out ((HIN.out.ea.turn (((Turn.refl B g W).alloc hB _)))) (by simp; omega) hca ((HT.out.below (((Turn.refl B g W).alloc hB _)).below).pow)).mono ?_; rintro e w1 ⟨rfl, hb1⟩; have X1 := (Whl.new W 42 (stC x h)).below' hb1; have P1 := (HP.out.alloc _).go hb1; have T1 := (((Turn.refl B g W).alloc hB _)).go hB hb1; have s1 := X1.lt; have l1 := T1.size; obtain ⟨x0, x1, x2, x3, x4, x5, x6, x7, x8, x9, x10, x11, x12, x13⟩ := X1.cSt; have tk1 := Lib.hid trivial)) | (go_at_call 11; have u1 := tk1; clear tk1; go_must (refine (lineP [[105, 102, 32], exT x.a, [32, 123]] (w1.heap.size) 3 n _ B g _ (P1.alloc _) (by simp; omega) (Whl.newAt (by simp) _ _) (by have := HLN.out; simp only [List.length_append] at this; (try simp only [List.length_append]); omega) (by simp)).mono ?_; rintro e w2 ⟨rfl, P2, U2⟩; have T2 := (T1.alloc hB _).trans U2; have X2 := U2.keep _ _ _ (by omega) (by decide) (X1.alloc _); have s2 := X2.lt; have l2 := T2.size; obtain ⟨v2_0, v2_1, v2_2, v2_3, v2_4, v2_5, v2_6, v2_7, v2_8, v2_9, v2_10, v2_11, v2_12, v2_13⟩ := X2.cSt; have tk2 := Lib.hid trivial)) | (go_at_call 13; have u2 := tk2; clear tk2; go_must (refine (HB.out x.body h.body.a h.body.c (lv + 1) n B g _ _ (by omega) HGO.out.body (HIN.out.body.turn T2) (by omega) (by omega) (by omega) P2 (Nat.le_trans hB T2.size) (HT.out.below T2.below) (by have := HLN.out; simp only [List.length_append] at this; (try simp only [List.length_append]); omega)).mono ?_; rintro e w3 ⟨rfl, P3, U3⟩; have T3 := T2.trans U3; have X3 := U3.keep _ _ _ (by omega) (by decide) X2; have s3 := X3.lt; have l3 := T3.size; obtain ⟨v3_0, v3_1, v3_2, v3_3, v3_4, v3_5, v3_6, v3_7, v3_8, v3_9, v3_10, v3_11, v3_12, v3_13⟩ := X3.cSt; have tk3 := Lib.hid trivial)) | (go_at_call 11; have u3 := tk3; clear tk3; go_must (refine (lineP [[125]] (w3.heap.size) 1 n _ B g _ (P3.alloc _) (by simp; omega) (Whl.newAt (by simp) _ _) (by have := HLN.out; simp only [List.length_append] at this; (try simp only [List.length_append]); omega) (by simp)).mono ?_; rintro e w4 ⟨rfl, P4, U4⟩; have T4 := (T3.alloc hB _).trans U4; have X4 := U4.keep _ _ _ (by omega) (by decide) (X3.alloc _); have s4 := X4.lt; have l4 := T4.size; obtain ⟨v4_0, v4_1, v4_2, v4_3, v4_4, v4_5, v4_6, v4_7, v4_8, v4_9, v4_10, v4_11, v4_12, v4_13⟩ := X4.cSt; have tk4 := Lib.hid trivial)))
    refine end_of ?_ rfl
    exact ⟨_, by simp [results, Tryz.results34, go_sem], rfl, by rw [HE.out]; simpa only [List.append_assoc, List.nil_append, List.append_nil] using P4, T4⟩
  · have he0 : decide (0 < x.els.length) = true := by simpa using he
    replace HE := Lib.hid HE.out
    have HE2 := HE.out
    rw [if_neg (by omega)] at HE2
    have HLN2 := HLN.out
    rw [if_neg (by omega)] at HLN2
    replace HE := Lib.hid HE2
    replace HLN := Lib.hid HLN2
    clear HE2 HLN2 he
    have tk0 := Lib.hid trivial
    go_enter Tryz.func34, Tryz.ntmps34
    go_wp2_with (first | (go_at_call 57; have u0 := tk0; clear tk0; go_must (refine (textP x.a h.a B _ HGA.out ((HIN.out.ea.turn (((Turn.refl B g W).alloc hB _)))) (by simp; omega) hca ((HT.out.below (((Turn.refl B g W).alloc hB _)).below).pow)).mono ?_; rintro e w1 ⟨rfl, hb1⟩; have X1 := (Whl.new W 42 (stC x h)).below' hb1; have P1 := (HP.out.alloc _).go hb1; have T1 := (((Turn.refl B g W).alloc hB _)).go hB hb1; have s1 := X1.lt; have l1 := T1.size; obtain ⟨x0, x1, x2, x3, x4, x5, x6, x7, x8, x9, x10, x11, x12, x13⟩ := X1.cSt; have tk1 := Lib.hid trivial)) | (go_at_call 11; have u1 := tk1; clear tk1; go_must (refine (lineP [[105, 102, 32], exT x.a, [32, 123]] (w1.heap.size) 3 n _ B g _ (P1.alloc _) (by simp; omega) (Whl.newAt (by simp) _ _) (by have := HLN.out; simp only [List.length_append] at this; (try simp only [List.length_append]); omega) (by simp)).mono ?_; rintro e w2 ⟨rfl, P2, U2⟩; have T2 := (T1.alloc hB _).trans U2; have X2 := U2.keep _ _ _ (by omega) (by decide) (X1.alloc _); have s2 := X2.lt; have l2 := T2.size; obtain ⟨v2_0, v2_1, v2_2, v2_3, v2_4, v2_5, v2_6, v2_7, v2_8, v2_9, v2_10, v2_11, v2_12, v2_13⟩ := X2.cSt; have tk2 := Lib.hid trivial)) | (go_at_call 13; have u2 := tk2; clear tk2; go_must (refine (HB.out x.body h.body.a h.body.c (lv + 1) n B g _ _ (by omega) HGO.out.body (HIN.out.body.turn T2) (by omega) (by omega) (by omega) P2 (Nat.le_trans hB T2.size) (HT.out.below T2.below) (by have := HLN.out; simp only [List.length_append] at this; (try simp only [List.length_append]); omega)).mono ?_; rintro e w3 ⟨rfl, P3, U3⟩; have T3 := T2.trans U3; have X3 := U3.keep _ _ _ (by omega) (by decide) X2; have s3 := X3.lt; have l3 := T3.size; obtain ⟨v3_0, v3_1, v3_2, v3_3, v3_4, v3_5, v3_6, v3_7, v3_8, v3_9, v3_10, v3_11, v3_12, v3_13⟩ := X3.cSt; have tk3 := Lib.hid trivial)) | (go_at_call 11; have u3 := tk3; clear tk3; go_must (refine (lineP [[125, 32, 101, 108, 115, 101, 32, 123]] (w3.heap.size) 1 n _ B g _ (P3.alloc _) (by simp; omega) (Whl.newAt (by simp) _ _) (by have := HLN.out; simp only [List.length_append] at this; (try simp only [List.length_append]); omega) (by simp)).mono ?_; rintro e w4 ⟨rfl, P4, U4⟩; have T4 := (T3.alloc hB _).trans U4; have X4 := U4.keep _ _ _ (by omega) (by decide) (X3.alloc _); have s4 := X4.lt; have l4 := T4.size; obtain ⟨v4_0, v4_1, v4_2, v4_3, v4_4, v4_5, v4_6, v4_7, v4_8, v4_9, v4_10, v4_11, v4_12, v4_13⟩ := X4.cSt; have tk4 := Lib.hid trivial)) | (go_at_call 13; have u4 := tk4; clear tk4; go_must (refine (HB.out x.els h.els.a h.els.c (lv + 1) n B g _ _ (by omega) HGO.out.els (HIN.out.els.turn T4) (by omega) (by omega) (by omega) P4 (Nat.le_trans hB T4.size) (HT.out.below T4.below) (by have := HLN.out; simp only [List.length_append] at this; (try simp only [List.length_append]); omega)).mono ?_; rintro e w5 ⟨rfl, P5, U5⟩; have T5 := T4.trans U5; have X5 := U5.keep _ _ _ (by omega) (by decide) X4; have s5 := X5.lt; have l5 := T5.size; obtain ⟨v5_0, v5_1, v5_2, v5_3, v5_4, v5_5, v5_6, v5_7, v5_8, v5_9, v5_10, v5_11, v5_12, v5_13⟩ := X5.cSt; have tk5 := Lib.hid trivial)) | (go_at_call 11; have u5 := tk5; clear tk5; go_must (refine (lineP [[125]] (w5.heap.size) 1 n _ B g _ (P5.alloc _) (by simp; omega) (Whl.newAt (by simp) _ _) (by have := HLN.out; simp only [List.length_append] at this; (try simp only [List.length_append]); omega) (by simp)).mono ?_; rintro e w6 ⟨rfl, P6, U6⟩; have T6 := (T5.alloc hB _).trans U6; have X6 := U6.keep _ _ _ (by omega) (by decide) (X5.alloc _); have s6 := X6.lt; have l6 := T6.size; obtain ⟨v6_0, v6_1, v6_2, v6_3, v6_4, v6_5, v6_6, v6_7, v6_8, v6_9, v6_10, v6_11, v6_12, v6_13⟩ := X6.cSt; have tk6 := Lib.hid trivial)))
    refine end_of ?_ rfl
    exact ⟨_, by simp [results, Tryz.results34, go_sem], rfl, by rw [HE.out]; simpa only [List.append_assoc, List.nil_append, List.append_nil] using P6, T6⟩
set_option maxRecDepth 100000 in
set_option maxHeartbeats 8000000 in
theorem stmt_7 (N : Nat) (HBo : BodyAt N) (x : StD) (hk : x.kind = 7) (h : HdS) (q : Nat → Hd) (lv n B g : Nat) (l : List UInt8) (W : World) (hs : SizeOf.sizeOf x < N + 1) (hgo : GoodS lv x) (hin : StIn W B x h q) (hn : n ≤ 2 * lv) (hc : cntS x ≤ 4096) (hp : Prn W B g l (n : Int)) (hB : B ≤ W.heap.size) (ht : Tab W B) (hlen : l.length + (stT x n).length ≤ 1099511627776) :
    Calls Tryz.prog 34 #[.pointer (some ⟨g, 0, none⟩), .agg (stC x h)] W fun e w' => e = .returned (.tuple #[]) ∧ Prn w' B g (l ++ stT x n) (n : Int) ∧ Turn B g W w' := by
  obtain ⟨c2, z2, lg, low⟩ := hp.read
  have hlv : lv ≤ 32 := by obtain ⟨a, _⟩ := hgo; exact a
  have hE := stT_7 hk n
  have HE := Lib.hid hE
  rw [hE] at hlen
  have HLN := Lib.hid hlen
  have hcn := cntS_eq x
  have hga : GoodE x.a := by obtain ⟨_, _, _, _, _, a, _⟩ := hgo; exact a (by rw [hk]; rfl)
  have a0 : (x.a.kind != 0) = true := by simpa using kind_pos hga
  have hca : cntE x.a ≤ 4096 := by have := cntZ_good hga; omega
  have HGA := Lib.hid hga
  clear hga
  have hgb : GoodE x.b := by obtain ⟨_, _, _, _, _, _, b, _⟩ := hgo; exact b (by rw [hk]; rfl)
  have hcb : cntE x.b ≤ 4096 := by have := cntZ_good hgb; omega
  have HGB := Lib.hid hgb
  clear hgb
  have HP := Lib.hid hp
  have HT := Lib.hid ht
  have HIN := Lib.hid hin
  have HGO := Lib.hid hgo
  have HB := Lib.hid HBo
  have b1 : (x.kind == 1) = false := by rw [hk]; rfl
  have b2 : (x.kind == 2) = false := by rw [hk]; rfl
  have b3 : (x.kind == 3) = false := by rw [hk]; rfl
  have b4 : (x.kind == 4) = false := by rw [hk]; rfl
  have b5 : (x.kind == 5) = false := by rw [hk]; rfl
  have b6 : (x.kind == 6) = false := by rw [hk]; rfl
  have b7 : (x.kind == 7) = true := by rw [hk]; rfl
  have HK := Lib.hid hk
  clear hE hlen hp ht hin hgo HBo hk c2 z2
  have hsb := body_size x
  have hse := els_size x
  have hsc := cases_size x
  have tk0 := Lib.hid trivial
  go_enter Tryz.func34, Tryz.ntmps34
  go_upto_region 37 with (go_at_call 57; have u0 := tk0; clear tk0; go_must (refine (textP x.a h.a B _ HGA.out ((HIN.out.ea.turn (((Turn.refl B g W).alloc hB _)))) (by simp; omega) hca ((HT.out.below (((Turn.refl B g W).alloc hB _)).below).pow)).mono ?_; rintro e w1 ⟨rfl, hb1⟩; have X1 := (Whl.new W 42 (stC x h)).below' hb1; have P1 := (HP.out.alloc _).go hb1; have T1 := (((Turn.refl B g W).alloc hB _)).go hB hb1; have s1 := X1.lt; have l1 := T1.size; obtain ⟨x0, x1, x2, x3, x4, x5, x6, x7, x8, x9, x10, x11, x12, x13⟩ := X1.cSt; have tk1 := Lib.hid trivial))
  go_region_held3 (fun w' => w'.cell? ⟨W.heap.size, 1, none⟩ = some (.string x.name) ∧ w'.cell? ⟨W.heap.size, 7, none⟩ = some (.int .i64 x.b.kind) ∧ w'.cell? ⟨W.heap.size, 8, none⟩ = some (.int .i64 x.b.n) ∧ w'.cell? ⟨W.heap.size, 9, none⟩ = some (.string x.b.name) ∧ w'.cell? ⟨W.heap.size, 10, none⟩ = some (.slice h.b.a x.b.args.length h.b.c))
    (first | exact keep5 (by assumption) (by assumption) | (go_simp; done) | exact (have Z := U3.keep _ _ _ (by omega) (by decide) (X2.alloc _); ⟨Z.cell 1, Z.cell 7, Z.cell 8, Z.cell 9, Z.cell 10⟩))
    (first
      | (go_at_call 57; refine (textP x.b h.b B _ HGB.out (HIN.out.eb.turn T1.drew) (Nat.le_trans hB T1.drew.size) hcb ((HT.out.below T1.drew.below).pow)).mono ?_; rintro e w2 ⟨rfl, hb2⟩; have P2 := Prn.go P1 (Below.trans ((Below.refl _ _).drew) hb2); have T2 := T1.drew.go hB hb2; have X2 : Whl w2 W.heap.size 42 (stC x h) := X1.drew.below' hb2; have s2 := X2.lt; have l2 := T2.size; have tk1 := Lib.hid trivial)
      | (go_at_call 11; have u1 := tk1; clear tk1; go_must (refine (lineP [[102, 111, 114, 32], bytesOf' x.name, [32, 105, 110, 32], exT x.a, [46, 46], exT x.b, [32, 123]] (w2.heap.size) 7 n _ B g _ (P2.alloc _) (by simp; omega) (Whl.newAt (by simp) _ _) (by have := HLN.out; simp only [List.length_append] at this; (try simp only [List.length_append]); omega) (by simp)).mono ?_; rintro e w3 ⟨rfl, P3, U3⟩; have T3 := (T2.alloc hB _).trans U3; have X3 := U3.keep _ _ _ (by omega) (by decide) (X2.alloc _); have s3 := X3.lt; have l3 := T3.size; obtain ⟨v3_0, v3_1, v3_2, v3_3, v3_4, v3_5, v3_6, v3_7, v3_8, v3_9, v3_10, v3_11, v3_12, v3_13⟩ := X3.cSt; have tk3 := Lib.hid trivial)))
  go_wp2_with (first | (go_at_call 13; have u3 := tk3; clear tk3; go_must (refine (HB.out x.body h.body.a h.body.c (lv + 1) n B g _ _ (by omega) HGO.out.body (HIN.out.body.turn T3) (by omega) (by omega) (by omega) P3 (Nat.le_trans hB T3.size) (HT.out.below T3.below) (by have := HLN.out; simp only [List.length_append] at this; (try simp only [List.length_append]); omega)).mono ?_; rintro e w4 ⟨rfl, P4, U4⟩; have T4 := T3.trans U4; have X4 := U4.keep _ _ _ (by omega) (by decide) X3; have s4 := X4.lt; have l4 := T4.size; obtain ⟨v4_0, v4_1, v4_2, v4_3, v4_4, v4_5, v4_6, v4_7, v4_8, v4_9, v4_10, v4_11, v4_12, v4_13⟩ := X4.cSt; have tk4 := Lib.hid trivial)) | (go_at_call 11; have u4 := tk4; clear tk4; go_must (refine (lineP [[125]] (w4.heap.size) 1 n _ B g _ (P4.alloc _) (by simp; omega) (Whl.newAt (by simp) _ _) (by have := HLN.out; simp only [List.length_append] at this; (try simp only [List.length_append]); omega) (by simp)).mono ?_; rintro e w5 ⟨rfl, P5, U5⟩; have T5 := (T4.alloc hB _).trans U5; have X5 := U5.keep _ _ _ (by omega) (by decide) (X4.alloc _); have s5 := X5.lt; have l5 := T5.size; obtain ⟨v5_0, v5_1, v5_2, v5_3, v5_4, v5_5, v5_6, v5_7, v5_8, v5_9, v5_10, v5_11, v5_12, v5_13⟩ := X5.cSt; have tk5 := Lib.hid trivial)))
  refine end_of ?_ rfl
  exact ⟨_, by simp [results, Tryz.results34, go_sem], rfl, by rw [HE.out]; simpa only [List.append_assoc, List.nil_append, List.append_nil] using P5, T5⟩
end Go.Proofs.YtdddppmfeoebgaaGreatDoor
