/-
  Layer 2 (tree): the walks of the printer's body and stmt.
-/
import Derived.Test.YtdddppmfeoebgaaGreatDoorStmtA
import Derived.Deep.RegionHeld3
namespace Go.Proofs.YtdddppmfeoebgaaGreatDoor
open Go.RowKit
set_option linter.unusedSimpArgs false
set_option linter.unusedVariables false
set_option maxRecDepth 100000 in
set_option maxHeartbeats 8000000 in
theorem stmt_2 (N : Nat) (HBo : BodyAt N) (x : StD) (hk : x.kind = 2) (h : HdS) (q : Nat → Hd) (lv n B g : Nat) (l : List UInt8) (W : World) (hs : SizeOf.sizeOf x < N + 1) (hgo : GoodS lv x) (hin : StIn W B x h q) (hn : n ≤ 2 * lv) (hc : cntS x ≤ 4096) (hp : Prn W B g l (n : Int)) (hB : B ≤ W.heap.size) (ht : Tab W B) (hlen : l.length + (stT x n).length ≤ 1099511627776) :
    Calls Tryz.prog 34 #[.pointer (some ⟨g, 0, none⟩), .agg (stC x h)] W fun e w' => e = .returned (.tuple #[]) ∧ Prn w' B g (l ++ stT x n) (n : Int) ∧ Turn B g W w' := by
  obtain ⟨c2, z2, lg, low⟩ := hp.read
  have hlv : lv ≤ 32 := by obtain ⟨a, _⟩ := hgo; exact a
  have hE := stT_2 hk n
  have HE := Lib.hid hE
  rw [hE] at hlen
  have HLN := Lib.hid hlen
  have hcn := cntS_eq x
  have a0 : (x.a.kind != 0) = false := by
    have f : formS x = true := by obtain ⟨_, f, _⟩ := hgo; exact f
    simp only [formS, hk, cA, zeroE, Int.reduceBEq, Bool.or_false, Bool.false_or, Bool.and_eq_true, Bool.or_eq_true, beq_iff_eq] at f
    simp [f.1.1.1.1.2.1.1.1]
  have HP := Lib.hid hp
  have HT := Lib.hid ht
  have HIN := Lib.hid hin
  have hni : In64 x.n := hin.wf.n
  have HGO := Lib.hid hgo
  have HB := Lib.hid HBo
  have b1 : (x.kind == 1) = false := by rw [hk]; rfl
  have b2 : (x.kind == 2) = true := by rw [hk]; rfl
  have HK := Lib.hid hk
  clear hE hlen hp ht hin hgo HBo hk c2 z2
  have tk1 := Lib.hid trivial
  go_enter Tryz.func34, Tryz.ntmps34
  go_upto_region 8 with fail
  go_region_held3 (fun w' => w'.cell? ⟨W.heap.size, 1, none⟩ = some (.string x.name) ∧ w'.cell? ⟨W.heap.size, 2, none⟩ = some (.int .i64 x.n))
    (first | exact keep2 (by assumption) (by assumption) | (go_simp; done) | exact ⟨(U2.keep _ _ _ (by omega) (by decide) (X1.alloc _)).cell 1, (U2.keep _ _ _ (by omega) (by decide) (X1.alloc _)).cell 2⟩)
    (first
      | (go_at_call 10; refine (numberP x.n _ hni (HT.out.below (((((Turn.refl B g W).alloc hB _))).drew).below).pow).mono ?_; rintro e w1 ⟨rfl, hb1⟩; have P1 := Prn.go (HP.out.alloc (.cells (stC x h) 42)) (Below.trans ((Below.refl _ _).drew) hb1); have T1 := (((((Turn.refl B g W).alloc hB _))).drew).go hB hb1; have X1 : Whl w1 W.heap.size 42 (stC x h) := (Whl.new W 42 (stC x h)).drew.below' hb1; have s1 := X1.lt; have l1 := T1.size; have HB1 := Lib.hid hb1)
      | (go_at_call 11; have u1 := tk1; clear tk1; go_must (refine (lineP [[108, 101, 116, 32], bytesOf' x.name, [91], numD x.n, [93, 59]] (w1.heap.size) 5 n _ B g _ (P1.alloc _) (by simp; omega) (Whl.newAt (by simp) _ _) (by exact Nat.le_trans HLN.out (by omega)) (by simp)).mono ?_; rintro e w2 ⟨rfl, P2, U2⟩; have T2 := (T1.alloc hB _).trans U2; have tk2 := Lib.hid trivial)))
  go_wp2
  all_goals (try simp only [Exit.inBlock, Exit.then])
  refine end_of ?_ rfl
  exact ⟨_, by simp [results, Tryz.results34, go_sem], rfl, by rw [HE.out]; exact P2, T2⟩
set_option maxRecDepth 100000 in
set_option maxHeartbeats 8000000 in
theorem stmt_4 (N : Nat) (HBo : BodyAt N) (x : StD) (hk : x.kind = 4) (h : HdS) (q : Nat → Hd) (lv n B g : Nat) (l : List UInt8) (W : World) (hs : SizeOf.sizeOf x < N + 1) (hgo : GoodS lv x) (hin : StIn W B x h q) (hn : n ≤ 2 * lv) (hc : cntS x ≤ 4096) (hp : Prn W B g l (n : Int)) (hB : B ≤ W.heap.size) (ht : Tab W B) (hlen : l.length + (stT x n).length ≤ 1099511627776) :
    Calls Tryz.prog 34 #[.pointer (some ⟨g, 0, none⟩), .agg (stC x h)] W fun e w' => e = .returned (.tuple #[]) ∧ Prn w' B g (l ++ stT x n) (n : Int) ∧ Turn B g W w' := by
  obtain ⟨c2, z2, lg, low⟩ := hp.read
  have hlv : lv ≤ 32 := by obtain ⟨a, _⟩ := hgo; exact a
  have hE := stT_4 hk n
  have HE := Lib.hid hE
  rw [hE] at hlen
  have HLN := Lib.hid hlen
  have hcn := cntS_eq x
  have hga : GoodE x.a := by obtain ⟨_, _, _, _, _, a, _⟩ := hgo; exact a (by rw [hk]; rfl)
  have a0 : (x.a.kind != 0) = true := by simpa using kind_pos hga
  have hca : cntE x.a ≤ 4096 := by have := cntZ_good hga; omega
  have HGA := Lib.hid hga
  clear hga
  have hgb : GoodE x.b := by obtain ⟨_, _, _, _, _, _, b, _⟩ := hgo; exact b (by rw [hk]; rfl)
  have hcb : cntE x.b ≤ 4096 := by have := cntZ_good hgb; omega
  have HGB := Lib.hid hgb
  clear hgb
  have HP := Lib.hid hp
  have HT := Lib.hid ht
  have HIN := Lib.hid hin
  have HGO := Lib.hid hgo
  have HB := Lib.hid HBo
  have b1 : (x.kind == 1) = false := by rw [hk]; rfl
  have b2 : (x.kind == 2) = false := by rw [hk]; rfl
  have b3 : (x.kind == 3) = false := by rw [hk]; rfl
  have b4 : (x.kind == 4) = true := by rw [hk]; rfl
  have HK := Lib.hid hk
  clear hE hlen hp ht hin hgo HBo hk c2 z2
  have tk0 := Lib.hid trivial
  go_enter Tryz.func34, Tryz.ntmps34
  go_upto_region 12 with (go_at_call 57; have u0 := tk0; clear tk0; go_must (refine (textP x.a h.a B _ HGA.out ((HIN.out.ea.turn (((Turn.refl B g W).alloc hB _)))) (by simp; omega) hca ((HT.out.below (((Turn.refl B g W).alloc hB _)).below).pow)).mono ?_; rintro e w1 ⟨rfl, hb1⟩; have X1 := (Whl.new W 42 (stC x h)).below' hb1; have P1 := (HP.out.alloc _).go hb1; have T1 := (((Turn.refl B g W).alloc hB _)).go hB hb1; have s1 := X1.lt; have l1 := T1.size; obtain ⟨x0, x1, x2, x3, x4, x5, x6, x7, x8, x9, x10, x11, x12, x13⟩ := X1.cSt; have tk1 := Lib.hid trivial))
  go_region_held3 (fun w' => w'.cell? ⟨W.heap.size, 1, none⟩ = some (.string x.name) ∧ w'.cell? ⟨W.heap.size, 7, none⟩ = some (.int .i64 x.b.kind) ∧ w'.cell? ⟨W.heap.size, 8, none⟩ = some (.int .i64 x.b.n) ∧ w'.cell? ⟨W.heap.size, 9, none⟩ = some (.string x.b.name) ∧ w'.cell? ⟨W.heap.size, 10, none⟩ = some (.slice h.b.a x.b.args.length h.b.c))
    (first | exact keep5 (by assumption) (by assumption) | (go_simp; done) | exact (have Z := U3.keep _ _ _ (by omega) (by decide) (X2.alloc _); ⟨Z.cell 1, Z.cell 7, Z.cell 8, Z.cell 9, Z.cell 10⟩))
    (first
      | (go_at_call 57; refine (textP x.b h.b B _ HGB.out (HIN.out.eb.turn T1.drew) (Nat.le_trans hB T1.drew.size) hcb ((HT.out.below T1.drew.below).pow)).mono ?_; rintro e w2 ⟨rfl, hb2⟩; have P2 := Prn.go P1 (Below.trans ((Below.refl _ _).drew) hb2); have T2 := T1.drew.go hB hb2; have X2 : Whl w2 W.heap.size 42 (stC x h) := X1.drew.below' hb2; have s2 := X2.lt; have l2 := T2.size; have tk1 := Lib.hid trivial)
      | (go_at_call 11; have u1 := tk1; clear tk1; go_must (refine (lineP [bytesOf' x.name, [91], exT x.a, [93, 32, 61, 32], exT x.b, [59]] (w2.heap.size) 6 n _ B g _ (P2.alloc _) (by simp; omega) (Whl.newAt (by simp) _ _) (by exact Nat.le_trans HLN.out (by omega)) (by simp)).mono ?_; rintro e w3 ⟨rfl, P3, U3⟩; have T3 := (T2.alloc hB _).trans U3; have tk3 := Lib.hid trivial)))
  go_wp2
  all_goals (try simp only [Exit.inBlock, Exit.then])
  refine end_of ?_ rfl
  exact ⟨_, by simp [results, Tryz.results34, go_sem], rfl, by rw [HE.out]; exact P3, T3⟩
end Go.Proofs.YtdddppmfeoebgaaGreatDoor
