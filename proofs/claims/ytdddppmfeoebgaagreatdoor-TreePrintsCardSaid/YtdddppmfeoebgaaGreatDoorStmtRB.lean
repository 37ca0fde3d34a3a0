/-
  Layer 2 (tree): the walks of the reference's if, switch, for, of choices and of body.
-/
import Derived.Test.YtdddppmfeoebgaaGreatDoorStmtRA
namespace Go.Proofs.YtdddppmfeoebgaaGreatDoor
open Go.RowKit Go.Sort
set_option linter.unusedSimpArgs false
set_option linter.unusedVariables false
set_option maxRecDepth 100000 in
set_option maxHeartbeats 8000000 in
theorem stR_7 (N : Nat) (H : BodyRAt N) (x : StD) (hk : x.kind = 7) (h : HdS) (q : Nat → Hd) (lv n B : Nat) (w : World) (hs : SizeOf.sizeOf x < N + 1) (g : GoodS lv x) (hx : StIn w B x h q) (hB : B ≤ w.heap.size) (hn : n ≤ 2 * lv) (hc : cntS x ≤ 4096) :
    Calls Tryz.prog 38 #[.agg (stC x h), .int .i64 (n : Int)] w fun e w' => e = .returned (strV (stT x n)) ∧ Below w.heap.size w w' := by
  have HE := Lib.hid (stT_eq x n)
  have hlv : lv ≤ 32 := by obtain ⟨level, _⟩ := g; exact level
  have hnm : x.name.size ≤ 16 := by obtain ⟨_, _, name, _⟩ := g; exact name
  have hc2 := cntS_eq x
  have X0 := Whl.new w 42 (stC x h)
  have K0 := below_alloc (Below.refl w.heap.size w) (.cells (stC x h) 42)
  have HX := Lib.hid (hx.below K0 hB)
  have IH := Lib.hid H
  have b1 : (x.kind == 1) = false := by rw [hk]; rfl
  have b2 : (x.kind == 2) = false := by rw [hk]; rfl
  have b3 : (x.kind == 3) = false := by rw [hk]; rfl
  have b4 : (x.kind == 4) = false := by rw [hk]; rfl
  have b5 : (x.kind == 5) = false := by rw [hk]; rfl
  have b6 : (x.kind == 6) = false := by rw [hk]; rfl
  have b7 : (x.kind == 7) = true := by rw [hk]; rfl
  have ga : GoodE x.a := by obtain ⟨_, _, _, _, _, a, _⟩ := g; exact a (by rw [hk]; rfl)
  have za := cntZ_good ga
  have la := good_len ga
  have lta : (exT x.a).length ≤ 300000 := by omega
  obtain ⟨ta, hta⟩ : ∃ t, exT x.a = t := ⟨_, rfl⟩
  have gb : GoodE x.b := by obtain ⟨_, _, _, _, _, _, b, _⟩ := g; exact b (by rw [hk]; rfl)
  have zb := cntZ_good gb
  have lb := good_len gb
  have ltb : (exT x.b).length ≤ 300000 := by omega
  obtain ⟨tb, htb⟩ : ∃ t, exT x.b = t := ⟨_, rfl⟩
  have Ja := exprRe (w := (w.alloc (.cells (stC x h) 42))) (h := h.a) ga HX.out.ea (by simp; omega) (by omega) hta
  rw [hta] at lta
  have Jb := exprRe (w := (w.alloc (.cells (stC x h) 42))) (h := h.b) gb HX.out.eb (by simp; omega) (by omega) htb
  rw [htb] at ltb
  have z1_0 : (⟨#[102, 111, 114, 32]⟩ : ByteArray).size = 4 := rfl
  have z1_2 : (⟨#[32, 105, 110, 32]⟩ : ByteArray).size = 4 := rfl
  have z1_3 : (⟨ta.toArray⟩ : ByteArray).size = ta.length := rfl
  have z1_4 : (⟨#[46, 46]⟩ : ByteArray).size = 2 := rfl
  have z1_5 : (⟨tb.toArray⟩ : ByteArray).size = tb.length := rfl
  have z1_6 : (⟨#[32, 123]⟩ : ByteArray).size = 2 := rfl
  have hsz1 : ((⟨#[102, 111, 114, 32]⟩ : ByteArray) ++ x.name ++ (⟨#[32, 105, 110, 32]⟩ : ByteArray) ++ (⟨ta.toArray⟩ : ByteArray) ++ (⟨#[46, 46]⟩ : ByteArray) ++ (⟨tb.toArray⟩ : ByteArray) ++ (⟨#[32, 123]⟩ : ByteArray)).size ≤ 1000000 := by
    (try simp only [ByteArray.size_append, z1_0, z1_2, z1_3, z1_4, z1_5, z1_6])
    omega
  clear z1_0 z1_2 z1_3 z1_4 z1_5 z1_6
  obtain ⟨l1, hl1⟩ : ∃ t, lineT (n) (bytesOf' ((⟨#[102, 111, 114, 32]⟩ : ByteArray) ++ x.name ++ (⟨#[32, 105, 110, 32]⟩ : ByteArray) ++ (⟨ta.toArray⟩ : ByteArray) ++ (⟨#[46, 46]⟩ : ByteArray) ++ (⟨tb.toArray⟩ : ByteArray) ++ (⟨#[32, 123]⟩ : ByteArray))) = t := ⟨_, rfl⟩
  have J1 := lineRe ((⟨#[102, 111, 114, 32]⟩ : ByteArray) ++ x.name ++ (⟨#[32, 105, 110, 32]⟩ : ByteArray) ++ (⟨ta.toArray⟩ : ByteArray) ++ (⟨#[46, 46]⟩ : ByteArray) ++ (⟨tb.toArray⟩ : ByteArray) ++ (⟨#[32, 123]⟩ : ByteArray)) (n) (n : Int) (w.alloc (.cells (stC x h) 42)) rfl (by omega) (by omega) l1 hl1
  have ll1 : l1.length ≤ 2000000 := by
    have e : (bytesOf' ((⟨#[102, 111, 114, 32]⟩ : ByteArray) ++ x.name ++ (⟨#[32, 105, 110, 32]⟩ : ByteArray) ++ (⟨ta.toArray⟩ : ByteArray) ++ (⟨#[46, 46]⟩ : ByteArray) ++ (⟨tb.toArray⟩ : ByteArray) ++ (⟨#[32, 123]⟩ : ByteArray))).length = ((⟨#[102, 111, 114, 32]⟩ : ByteArray) ++ x.name ++ (⟨#[32, 105, 110, 32]⟩ : ByteArray) ++ (⟨ta.toArray⟩ : ByteArray) ++ (⟨#[46, 46]⟩ : ByteArray) ++ (⟨tb.toArray⟩ : ByteArray) ++ (⟨#[32, 123]⟩ : ByteArray)).size := rfl
    rw [← hl1, lineT_len, e]; omega
  have z2_0 : (⟨#[125]⟩ : ByteArray).size = 1 := rfl
  have hsz2 : ((⟨#[125]⟩ : ByteArray)).size ≤ 1000000 := by
    (try simp only [ByteArray.size_append, z2_0])
    omega
  clear z2_0
  obtain ⟨l2, hl2⟩ : ∃ t, lineT (n) (bytesOf' ((⟨#[125]⟩ : ByteArray))) = t := ⟨_, rfl⟩
  have J2 := lineRe ((⟨#[125]⟩ : ByteArray)) (n) (n : Int) (w.alloc (.cells (stC x h) 42)) rfl (by omega) (by omega) l2 hl2
  have ll2 : l2.length ≤ 2000000 := by
    have e : (bytesOf' ((⟨#[125]⟩ : ByteArray))).length = ((⟨#[125]⟩ : ByteArray)).size := rfl
    rw [← hl2, lineT_len, e]; omega
  have hw1 : IntKind.i64.wrap ((n : Int) + 1) = (n : Int) + 1 := IntWalk.i64_in _ (by omega)
  have hw2 : ((n : Int) + 1) = ((n + 1 : Nat) : Int) := by omega
  have sbx := body_size x
  have sex := els_size x
  have scx := cases_size x
  have gbd : ∀ k, k < x.body.length → GoodS (lv + 1) (nthS x.body k) := by obtain ⟨_, _, _, _, _, _, _, a, _⟩ := g; exact a
  have ltb10 : (stTs x.body (n + 1)).length ≤ 1000 * cntSs x.body := goodSs_len gbd (by omega)
  obtain ⟨tb1, htb1⟩ : ∃ t, stTs x.body (n + 1) = t := ⟨_, rfl⟩
  rw [htb1] at ltb10
  have ltb1 : tb1.length ≤ 5000000 := by omega
  have Jb1 := BodyRAt.re IH.out (w := (w.alloc (.cells (stC x h) 42))) (l := x.body) (A := h.body.a) (c := h.body.c) (n := n + 1) (z := (n : Int) + 1) (by omega) gbd HX.out.body (by simp; omega) hw2 (by omega) (by omega) (by omega) htb1
  have y0 : ¬ 9223372036854775807 < 4 + x.name.size := by omega
  have y1 : ¬ 9223372036854775807 < 4 + x.name.size + 4 := by omega
  have y2 : ¬ 9223372036854775807 < 4 + x.name.size + 4 + ta.length := by omega
  have y3 : ¬ 9223372036854775807 < 4 + x.name.size + 4 + ta.length + 2 := by omega
  have y4 : ¬ 9223372036854775807 < 4 + x.name.size + 4 + ta.length + 2 + tb.length := by omega
  have y5 : ¬ 9223372036854775807 < 4 + x.name.size + 4 + ta.length + 2 + tb.length + 2 := by omega
  have y6 : ¬ 9223372036854775807 < l1.length + tb1.length := by omega
  have y7 : ¬ 9223372036854775807 < l1.length + tb1.length + l2.length := by omega
  obtain ⟨c0, c1, c2, c3, c4, c5, c6, c7, c8, c9, c10, c11, c12, c13⟩ := X0.cSt
  have HJa := Lib.hid Ja
  have HJb := Lib.hid Jb
  have HJ1 := Lib.hid J1
  have HJ2 := Lib.hid J2
  have HJb1 := Lib.hid Jb1
  have HTa := Lib.hid hta
  have HTb := Lib.hid htb
  have HTb1 := Lib.hid htb1
  have HL1 := Lib.hid hl1
  have HL2 := Lib.hid hl2
  have HKK := Lib.hid hk
  clear HX IH g hx hc2 ga za la Ja gb zb lb Jb J1 J2 Jb1 X0 hk hl1 hl2 hta htb htb1 gbd hw2 sbx sex scx ltb10
  have k0 := cell_regrown c0
  have k1 := cell_regrown c1
  have k2 := cell_regrown c2
  have k3 := cell_regrown c3
  have k4 := cell_regrown c4
  have k5 := cell_regrown c5
  have k6 := cell_regrown c6
  have k7 := cell_regrown c7
  have k8 := cell_regrown c8
  have k9 := cell_regrown c9
  have k10 := cell_regrown c10
  have k11 := cell_regrown c11
  have k12 := cell_regrown c12
  have k13 := cell_regrown c13
  go_enter Tryz.func38, Tryz.ntmps38
  (try simp only [List.append_eq, List.cons_append, List.nil_append])
  go_upto_region 18 with fail
  clear c0 c1 c2 c3 c4 c5 c6 c7 c8 c9 c10 c11 c12 c13
  refine wp_region_quiet_below (by kernel_rfl) (by kernel_rfl) ?_
  repeat (go_big_quiet_step (first | with_reducible exact HJa.out _ _ | with_reducible exact HJb.out _ _ | with_reducible exact HJ1.out _ _ | with_reducible exact HJ2.out _ _ | with_reducible exact HJb1.out _ _))
  refine wpQuiet_nil ?_
  intro _ hw'
  obtain ⟨⟨dq, osq⟩, hw''⟩ := hw'
  subst hw''
  go_wp2
  go_ret
  rw [HE.out, HKK.out]
  refine ⟨str_eq ?_, below_step K0 (below_regrown _ dq osq)⟩
  simp only [stT, ByteArray.data_append, Array.toList_append, List.append_assoc]
  rw [← HL1.out, ← HL2.out, ← HTb1.out]
  simp only [bytes_app, HTa.out, HTb.out]
  simp [bytesOf', List.append_assoc]
set_option maxRecDepth 100000 in
set_option maxHeartbeats 8000000 in
theorem stR_5 (N : Nat) (H : BodyRAt N) (x : StD) (hk : x.kind = 5) (h : HdS) (q : Nat → Hd) (lv n B : Nat) (w : World) (hs : SizeOf.sizeOf x < N + 1) (g : GoodS lv x) (hx : StIn w B x h q) (hB : B ≤ w.heap.size) (hn : n ≤ 2 * lv) (hc : cntS x ≤ 4096) :
    Calls Tryz.prog 38 #[.agg (stC x h), .int .i64 (n : Int)] w fun e w' => e = .returned (strV (stT x n)) ∧ Below w.heap.size w w' := by
  have HE := Lib.hid (stT_eq x n)
  have hlv : lv ≤ 32 := by obtain ⟨level, _⟩ := g; exact level
  have hnm : x.name.size ≤ 16 := by obtain ⟨_, _, name, _⟩ := g; exact name
  have hc2 := cntS_eq x
  have X0 := Whl.new w 42 (stC x h)
  have K0 := below_alloc (Below.refl w.heap.size w) (.cells (stC x h) 42)
  have HX := Lib.hid (hx.below K0 hB)
  have IH := Lib.hid H
  have b1 : (x.kind == 1) = false := by rw [hk]; rfl
  have b2 : (x.kind == 2) = false := by rw [hk]; rfl
  have b3 : (x.kind == 3) = false := by rw [hk]; rfl
  have b4 : (x.kind == 4) = false := by rw [hk]; rfl
  have b5 : (x.kind == 5) = true := by rw [hk]; rfl
  have ga : GoodE x.a := by obtain ⟨_, _, _, _, _, a, _⟩ := g; exact a (by rw [hk]; rfl)
  have za := cntZ_good ga
  have la := good_len ga
  have lta : (exT x.a).length ≤ 300000 := by omega
  obtain ⟨ta, hta⟩ : ∃ t, exT x.a = t := ⟨_, rfl⟩
  have Ja := exprRe (w := (w.alloc (.cells (stC x h) 42))) (h := h.a) ga HX.out.ea (by simp; omega) (by omega) hta
  rw [hta] at lta
  have z1_0 : (⟨#[105, 102, 32]⟩ : ByteArray).size = 3 := rfl
  have z1_1 : (⟨ta.toArray⟩ : ByteArray).size = ta.length := rfl
  have z1_2 : (⟨#[32, 123]⟩ : ByteArray).size = 2 := rfl
  have hsz1 : ((⟨#[105, 102, 32]⟩ : ByteArray) ++ (⟨ta.toArray⟩ : ByteArray) ++ (⟨#[32, 123]⟩ : ByteArray)).size ≤ 1000000 := by
    (try simp only [ByteArray.size_append, z1_0, z1_1, z1_2])
    omega
  clear z1_0 z1_1 z1_2
  obtain ⟨l1, hl1⟩ : ∃ t, lineT (n) (bytesOf' ((⟨#[105, 102, 32]⟩ : ByteArray) ++ (⟨ta.toArray⟩ : ByteArray) ++ (⟨#[32, 123]⟩ : ByteArray))) = t := ⟨_, rfl⟩
  have J1 := lineRe ((⟨#[105, 102, 32]⟩ : ByteArray) ++ (⟨ta.toArray⟩ : ByteArray) ++ (⟨#[32, 123]⟩ : ByteArray)) (n) (n : Int) (w.alloc (.cells (stC x h) 42)) rfl (by omega) (by omega) l1 hl1
  have ll1 : l1.length ≤ 2000000 := by
    have e : (bytesOf' ((⟨#[105, 102, 32]⟩ : ByteArray) ++ (⟨ta.toArray⟩ : ByteArray) ++ (⟨#[32, 123]⟩ : ByteArray))).length = ((⟨#[105, 102, 32]⟩ : ByteArray) ++ (⟨ta.toArray⟩ : ByteArray) ++ (⟨#[32, 123]⟩ : ByteArray)).size := rfl
    rw [← hl1, lineT_len, e]; omega
  have z2_0 : (⟨#[125]⟩ : ByteArray).size = 1 := rfl
  have hsz2 : ((⟨#[125]⟩ : ByteArray)).size ≤ 1000000 := by
    (try simp only [ByteArray.size_append, z2_0])
    omega
  clear z2_0
  obtain ⟨l2, hl2⟩ : ∃ t, lineT (n) (bytesOf' ((⟨#[125]⟩ : ByteArray))) = t := ⟨_, rfl⟩
  have J2 := lineRe ((⟨#[125]⟩ : ByteArray)) (n) (n : Int) (w.alloc (.cells (stC x h) 42)) rfl (by omega) (by omega) l2 hl2
  have ll2 : l2.length ≤ 2000000 := by
    have e : (bytesOf' ((⟨#[125]⟩ : ByteArray))).length = ((⟨#[125]⟩ : ByteArray)).size := rfl
    rw [← hl2, lineT_len, e]; omega
  have z3_0 : (⟨#[125, 32, 101, 108, 115, 101, 32, 123]⟩ : ByteArray).size = 8 := rfl
  have hsz3 : ((⟨#[125, 32, 101, 108, 115, 101, 32, 123]⟩ : ByteArray)).size ≤ 1000000 := by
    (try simp only [ByteArray.size_append, z3_0])
    omega
  clear z3_0
  obtain ⟨l3, hl3⟩ : ∃ t, lineT (n) (bytesOf' ((⟨#[125, 32, 101, 108, 115, 101, 32, 123]⟩ : ByteArray))) = t := ⟨_, rfl⟩
  have J3 := lineRe ((⟨#[125, 32, 101, 108, 115, 101, 32, 123]⟩ : ByteArray)) (n) (n : Int) (w.alloc (.cells (stC x h) 42)) rfl (by omega) (by omega) l3 hl3
  have ll3 : l3.length ≤ 2000000 := by
    have e : (bytesOf' ((⟨#[125, 32, 101, 108, 115, 101, 32, 123]⟩ : ByteArray))).length = ((⟨#[125, 32, 101, 108, 115, 101, 32, 123]⟩ : ByteArray)).size := rfl
    rw [← hl3, lineT_len, e]; omega
  have hw1 : IntKind.i64.wrap ((n : Int) + 1) = (n : Int) + 1 := IntWalk.i64_in _ (by omega)
  have hw2 : ((n : Int) + 1) = ((n + 1 : Nat) : Int) := by omega
  have sbx := body_size x
  have sex := els_size x
  have scx := cases_size x
  have gbd : ∀ k, k < x.body.length → GoodS (lv + 1) (nthS x.body k) := by obtain ⟨_, _, _, _, _, _, _, a, _⟩ := g; exact a
  have ged : ∀ k, k < x.els.length → GoodS (lv + 1) (nthS x.els k) := by obtain ⟨_, _, _, _, _, _, _, _, a, _⟩ := g; exact a
  have ltb10 : (stTs x.body (n + 1)).length ≤ 1000 * cntSs x.body := goodSs_len gbd (by omega)
  obtain ⟨tb1, htb1⟩ : ∃ t, stTs x.body (n + 1) = t := ⟨_, rfl⟩
  rw [htb1] at ltb10
  have ltb1 : tb1.length ≤ 5000000 := by omega
  have lte10 : (stTs x.els (n + 1)).length ≤ 1000 * cntSs x.els := goodSs_len ged (by omega)
  obtain ⟨te1, hte1⟩ : ∃ t, stTs x.els (n + 1) = t := ⟨_, rfl⟩
  rw [hte1] at lte10
  have lte1 : te1.length ≤ 5000000 := by omega
  have Jb1 := BodyRAt.re IH.out (w := (w.alloc (.cells (stC x h) 42))) (l := x.body) (A := h.body.a) (c := h.body.c) (n := n + 1) (z := (n : Int) + 1) (by omega) gbd HX.out.body (by simp; omega) hw2 (by omega) (by omega) (by omega) htb1
  have HLI : Hid (∀ W, Calls Tryz.prog 18 #[.string (⟨#[125]⟩ : ByteArray), .int .i64 (n : Int)] W fun e w' => e = .returned (strV l2) ∧ W = w') := Lib.hid (fun W => by rw [← hl2]; exact lineRP _ n _ W rfl (by omega) (by omega))
  have HJ3 : Hid (∀ (V : World) (dd : Nat) (os : Array Obj), Calls Tryz.prog 18 #[.string (⟨#[125, 32, 101, 108, 115, 101, 32, 123]⟩ : ByteArray), .int .i64 (n : Int)] (grow (redrawn V dd) os) fun e w'' => e = .returned (strV l3) ∧ ∃ p : Regrown, w'' = grow (redrawn V p.d) p.os) := Lib.hid (fun V => lineRe (⟨#[125, 32, 101, 108, 115, 101, 32, 123]⟩ : ByteArray) n (n : Int) V rfl (by omega) (by omega) l3 hl3)
  have y0 : ¬ 9223372036854775807 < 3 + ta.length := by omega
  have y1 : ¬ 9223372036854775807 < 3 + ta.length + 2 := by omega
  have y2 : ¬ 9223372036854775807 < l1.length + tb1.length := by omega
  have y3 : ¬ 9223372036854775807 < l3.length + te1.length := by omega
  have y4 : ¬ 9223372036854775807 < l1.length + tb1.length + (l3.length + te1.length) := by omega
  have y5 : ¬ 9223372036854775807 < l1.length + tb1.length + (l3.length + te1.length) + l2.length := by omega
  have y6 : ¬ 9223372036854775807 < l1.length + tb1.length + l2.length := by omega
  obtain ⟨c0, c1, c2, c3, c4, c5, c6, c7, c8, c9, c10, c11, c12, c13⟩ := X0.cSt
  have HJa := Lib.hid Ja
  have HJ1 := Lib.hid J1
  have HJb1 := Lib.hid Jb1
  have HTa := Lib.hid hta
  have HTb1 := Lib.hid htb1
  have HTe1 := Lib.hid hte1
  have HL1 := Lib.hid hl1
  have HL2 := Lib.hid hl2
  have HL3 := Lib.hid hl3
  have HKK := Lib.hid hk
  have HGE := Lib.hid ged
  have HW2 := Lib.hid hw2
  clear g hx ga za la Ja J1 J2 J3 Jb1 hk hl1 hl2 hl3 hta htb1 hte1 gbd ged hw2 sbx scx ltb10 lte10
  have k0 := cell_regrown c0
  have k1 := cell_regrown c1
  have k2 := cell_regrown c2
  have k3 := cell_regrown c3
  have k4 := cell_regrown c4
  have k5 := cell_regrown c5
  have k6 := cell_regrown c6
  have k7 := cell_regrown c7
  have k8 := cell_regrown c8
  have k9 := cell_regrown c9
  have k10 := cell_regrown c10
  have k11 := cell_regrown c11
  have k12 := cell_regrown c12
  have k13 := cell_regrown c13
  go_enter Tryz.func38, Tryz.ntmps38
  (try simp only [List.append_eq, List.cons_append, List.nil_append])
  go_upto_region 11 with fail
  clear c0 c1 c2 c3 c4 c5 c6 c7 c8 c9 c10 c11 c12 c13
  refine wp_region_quiet_below (by kernel_rfl) (by kernel_rfl) ?_
  repeat (go_big_quiet_step (first | with_reducible exact HJa.out _ _ | with_reducible exact HJ1.out _ _ | with_reducible exact HJb1.out _ _))
  refine wpQuiet_nil ?_
  intro _ hw'
  obtain ⟨⟨dq, osq⟩, hw''⟩ := hw'
  subst hw''
  clear k0 k1 k2 k3 k4 k5 k6 k7 k8 k9 k10 k11 k12 k13
  have XV : Whl (grow (redrawn (w.alloc (.cells (stC x h) 42)) dq) osq) w.heap.size 42 (stC x h) := X0.below' (below_regrown _ dq osq)
  have KV := below_step K0 (below_regrown (w.alloc (.cells (stC x h) 42)) dq osq)
  have HXV := Lib.hid (HX.out.below (below_regrown (w.alloc (.cells (stC x h) 42)) dq osq) (by simp; omega))
  generalize grow (redrawn (w.alloc (.cells (stC x h) 42)) dq) osq = V at XV KV HXV ⊢
  have lV := XV.lt
  have sV := KV.size
  obtain ⟨c0, c1, c2, c3, c4, c5, c6, c7, c8, c9, c10, c11, c12, c13⟩ := XV.cSt
  rcases Nat.eq_zero_or_pos x.els.length with he | he
  · have he0 : decide (0 < x.els.length) = false := decide_eq_false (by omega)
    have he1 : ¬ 0 < x.els.length := by omega
    have HEL := Lib.hid he
    clear he
    go_wp2_with (go_at_call 18; go_must (refine (HLI.out _).mono ?_; rintro e w9 ⟨rfl, rfl⟩))
    go_ret
    rw [HE.out, HKK.out]
    refine ⟨str_eq ?_, KV⟩
    simp only [stT, ByteArray.data_append, Array.toList_append, List.append_assoc]
    rw [if_pos HEL.out]
    rw [← HL1.out, ← HL2.out, ← HTb1.out]
    simp only [bytes_app, HTa.out]
    simp [bytesOf', List.append_assoc]
  · have he0 : decide (0 < x.els.length) = true := decide_eq_true he
    have hz : ¬ x.els.length = 0 := by omega
    have HEL := Lib.hid hz
    have Je1 := BodyRAt.re IH.out (w := V) (l := x.els) (A := h.els.a) (c := h.els.c) (n := n + 1) (z := (n : Int) + 1) (by omega) HGE.out HXV.out.els (by omega) HW2.out (by omega) (by omega) (by omega) HTe1.out
    have HJe1 := Lib.hid Je1
    have HJ3V := Lib.hid (HJ3.out V)
    clear Je1 hz hc2
    have k0 := cell_regrown c0
    have k1 := cell_regrown c1
    have k2 := cell_regrown c2
    have k3 := cell_regrown c3
    have k4 := cell_regrown c4
    have k5 := cell_regrown c5
    have k6 := cell_regrown c6
    have k7 := cell_regrown c7
    have k8 := cell_regrown c8
    have k9 := cell_regrown c9
    have k10 := cell_regrown c10
    have k11 := cell_regrown c11
    have k12 := cell_regrown c12
    have k13 := cell_regrown c13
    go_upto_region 13 with fail
    clear c0 c1 c2 c3 c4 c5 c6 c7 c8 c9 c10 c11 c12 c13
    refine wp_region_quiet_below (by kernel_rfl) (by kernel_rfl) ?_
    repeat (go_big_quiet_step (first | with_reducible exact HJe1.out _ _ | with_reducible exact HJ3V.out _ _))
    refine wpQuiet_nil ?_
    intro _ hw'
    obtain ⟨⟨dq2, osq2⟩, hw''⟩ := hw'
    subst hw''
    go_wp2_with (go_at_call 18; go_must (refine (HLI.out _).mono ?_; rintro e w9 ⟨rfl, rfl⟩))
    go_ret
    rw [HE.out, HKK.out]
    refine ⟨str_eq ?_, below_step KV (below_regrown V dq2 osq2)⟩
    simp only [stT, ByteArray.data_append, Array.toList_append, List.append_assoc]
    rw [if_neg HEL.out]
    rw [← HL1.out, ← HL2.out, ← HL3.out, ← HTe1.out, ← HTb1.out]
    simp only [bytes_app, HTa.out]
    simp [bytesOf', List.append_assoc]
/-- The lines of a switch's cases and else. -/
def chT (x : StD) (d : Nat) : List UInt8 := caTs x.cases d ++ (if x.els.length = 0 then [] else lineT d [101, 108, 115, 101, 32, 123] ++ (stTs x.els (d + 1) ++ lineT d [125]))
theorem caTs_good {lv d : Nat} {x : StD} (g : GoodS lv x) (hd : d ≤ 2 * lv + 1) : (caTs x.cases d).length ≤ 1000 * cntCs x.cases := caTs_len fun j hj => by
  have h := goodSs_len (lv := lv + 1) (d := d + 1) (g.cases j hj) (by omega)
  have hlv : lv ≤ 32 := by obtain ⟨level, _⟩ := g; exact level
  have hcn := cntC_eq (nthC x.cases j)
  have hnn := numD_len (g.cn j hj)
  rw [caT_eq]
  simp only [List.length_append, lineT_len, List.length_cons, List.length_nil]
  omega
theorem lineRh (s : ByteArray) (d : Nat) (z : Int) (hz : z = (d : Int)) (hd : d ≤ 1000) (hs : s.size ≤ 1000000000000) (t : List UInt8) (ht : lineT d (bytesOf' s) = t) : Hid (∀ (V : World) (dd : Nat) (os : Array Obj), Calls Tryz.prog 18 #[.string s, .int .i64 z] (grow (redrawn V dd) os) fun e w'' => e = .returned (strV t) ∧ ∃ p : Regrown, w'' = grow (redrawn V p.d) p.os) :=
  Lib.hid fun V => lineRe s d z V hz hd hs t ht
set_option maxRecDepth 100000 in
set_option maxHeartbeats 8000000 in
theorem choicesR (N : Nat) (H : BodyRAt N) (x : StD) (h : HdS) (q : Nat → Hd) (lv d B : Nat) (z : Int) (w : World) (hs : SizeOf.sizeOf x < N + 1) (g : GoodS lv x) (hx : StIn w B x h q) (hB : B ≤ w.heap.size) (hz : z = (d : Int)) (hd : d ≤ 2 * lv + 1) (hc : cntS x ≤ 4096) :
    Calls Tryz.prog 62 #[.agg (stC x h), .int .i64 z] w fun e w' => e = .returned (strV (chT x d)) ∧ Below w.heap.size w w' := by
  subst hz
  have hlv : lv ≤ 32 := by obtain ⟨level, _⟩ := g; exact level
  have hc2 := cntS_eq x
  have hcl : x.cases.length * 32 ≤ 140737488351232 := hx.clen
  have X0 := Whl.new w 42 (stC x h)
  have K0 := below_alloc (Below.refl w.heap.size w) (.cells (stC x h) 42)
  have HX := Lib.hid hx
  have IH := Lib.hid H
  have HG := Lib.hid g
  have hct := caTs_good g hd
  have sbx := body_size x
  have sex := els_size x
  have scx := cases_size x
  have hw1 : IntKind.i64.wrap ((d : Int) + 1) = (d : Int) + 1 := IntWalk.i64_in _ (by omega)
  have hw2 : ((d : Int) + 1) = ((d + 1 : Nat) : Int) := by omega
  have HW2 := Lib.hid hw2
  obtain ⟨l2, hl2⟩ : ∃ t, lineT d (bytesOf' (⟨#[125]⟩ : ByteArray)) = t := ⟨_, rfl⟩
  have ll2 : l2.length ≤ 2000000 := by rw [← hl2, lineT_len, show (bytesOf' (⟨#[125]⟩ : ByteArray)).length = 1 from rfl]; omega
  have HJ2 := lineRh (⟨#[125]⟩ : ByteArray) d (d : Int) rfl (by omega) (by rw [show ((⟨#[125]⟩ : ByteArray)).size = 1 from rfl]; omega) l2 hl2
  obtain ⟨l3, hl3⟩ : ∃ t, lineT d (bytesOf' (⟨#[101, 108, 115, 101, 32, 123]⟩ : ByteArray)) = t := ⟨_, rfl⟩
  have ll3 : l3.length ≤ 2000000 := by rw [← hl3, lineT_len, show (bytesOf' (⟨#[101, 108, 115, 101, 32, 123]⟩ : ByteArray)).length = 6 from rfl]; omega
  have HJ3 := lineRh (⟨#[101, 108, 115, 101, 32, 123]⟩ : ByteArray) d (d : Int) rfl (by omega) (by rw [show ((⟨#[101, 108, 115, 101, 32, 123]⟩ : ByteArray)).size = 6 from rfl]; omega) l3 hl3
  have HL2 := Lib.hid hl2
  have HL3 := Lib.hid hl3
  clear H g hx hw2 hl2 hl3
  go_enter Tryz.func62, Tryz.ntmps62
  go_wp2
  clear hw1
  go_loopw [5, 6] (fun v i W => ∃ (k : Nat) (S : List UInt8), k ≤ x.cases.length ∧ i = .int .i64 k ∧ v = strV S ∧ Hid (caTs (x.cases.take k) d = S) ∧ Below w.heap.size w W ∧ Whl W w.heap.size 42 (stC x h)) (fun _ i _ => x.cases.length - (intOf i).toNat)
  case atStart => exact ⟨0, [], Nat.zero_le _, rfl, rfl, Lib.hid (by simp [caTs]), K0, X0⟩
  case round =>
    clear X0 K0
    obtain ⟨k, S, hk, rfl, rfl, HQ, KV, XV⟩ := hrel
    have hw1 : IntKind.i64.wrap ((d : Int) + 1) = (d : Int) + 1 := IntWalk.i64_in _ (by omega)
    have sV := KV.size
    have lV := XV.lt
    obtain ⟨c0, c1, c2, c3, c4, c5, c6, c7, c8, c9, c10, c11, c12, c13⟩ := XV.cSt
    have hSl : S.length ≤ 5000000 := by
      have e := congrArg List.length (caTs_cut x.cases d k)
      rw [List.length_append, HQ.out] at e
      omega
    have HXV := Lib.hid (HX.out.below KV hB)
    by_cases hlt : k < x.cases.length
    · obtain ⟨b, off, ha, e0, e1⟩ := HXV.out.crow.ca hlt
      have lb : b < wr.heap.size := World.block_lt_of_cell? _ _ e0
      rw [ha] at c13
      have hsn := Lib.hid (caTs_snoc (d := d) hlt)
      have hce := Lib.hid (caT_eq (nthC x.cases k) d)
      have s1 : SizeOf.sizeOf (nthC x.cases k) < SizeOf.sizeOf x.cases := getD_size _ hlt
      have s2 := cbody_size (nthC x.cases k)
      have gn := HG.out.cn k hlt
      have gb := HG.out.cases k hlt
      have hcc := cntC_eq (nthC x.cases k)
      have hcm : cntC (nthC x.cases k) ≤ cntCs x.cases := by have e1 := cntCs_snoc hlt; have e2 := cntCs_cut x.cases (k + 1); omega
      have ltn : (numD (nthC x.cases k).n).length ≤ 20 := numD_len gn
      have hkb := HXV.out.cbody k hlt
      have ltb : (stTs (nthC x.cases k).body (d + 1)).length ≤ 1000 * cntSs (nthC x.cases k).body := goodSs_len gb (by omega)
      generalize nthC x.cases k = y at e0 e1 hsn hce s1 s2 gn gb hcc hcm ltn hkb ltb
      obtain ⟨tn, htn⟩ : ∃ t, numD y.n = t := ⟨_, rfl⟩
      obtain ⟨tb, htb⟩ : ∃ t, stTs y.body (d + 1) = t := ⟨_, rfl⟩
      have Jn := Lib.hid (numRe (w := wr) gn htn)
      have Jb := Lib.hid (BodyRAt.re IH.out (w := wr) (l := y.body) (A := (q k).a) (c := (q k).c) (n := d + 1) (z := (d : Int) + 1) (by omega) gb hkb (by omega) HW2.out (by omega) (by omega) (by omega) htb)
      rw [htn] at ltn
      rw [htb] at ltb
      have hzs : ((⟨#[99, 97, 115, 101, 32]⟩ : ByteArray) ++ (⟨tn.toArray⟩ : ByteArray) ++ (⟨#[32, 123]⟩ : ByteArray)).size ≤ 1000000 := by
        simp only [ByteArray.size_append, show ((⟨#[99, 97, 115, 101, 32]⟩ : ByteArray)).size = 5 from rfl, show (⟨tn.toArray⟩ : ByteArray).size = tn.length from rfl, show ((⟨#[32, 123]⟩ : ByteArray)).size = 2 from rfl]; omega
      obtain ⟨l1, hl1⟩ : ∃ t, lineT d (bytesOf' ((⟨#[99, 97, 115, 101, 32]⟩ : ByteArray) ++ (⟨tn.toArray⟩ : ByteArray) ++ (⟨#[32, 123]⟩ : ByteArray))) = t := ⟨_, rfl⟩
      have ll1 : l1.length ≤ 2000000 := by
        have e : (bytesOf' ((⟨#[99, 97, 115, 101, 32]⟩ : ByteArray) ++ (⟨tn.toArray⟩ : ByteArray) ++ (⟨#[32, 123]⟩ : ByteArray))).length = ((⟨#[99, 97, 115, 101, 32]⟩ : ByteArray) ++ (⟨tn.toArray⟩ : ByteArray) ++ (⟨#[32, 123]⟩ : ByteArray)).size := rfl
        rw [← hl1, lineT_len, e]; omega
      have J1 := Lib.hid ((lineRh ((⟨#[99, 97, 115, 101, 32]⟩ : ByteArray) ++ (⟨tn.toArray⟩ : ByteArray) ++ (⟨#[32, 123]⟩ : ByteArray)) d (d : Int) rfl (by omega) (by omega) l1 hl1).out wr)
      have J2 := Lib.hid (HJ2.out wr)
      have y0 : ¬ 9223372036854775807 < 5 + tn.length := by omega
      have y1 : ¬ 9223372036854775807 < 5 + tn.length + 2 := by omega
      have y2 : ¬ 9223372036854775807 < l1.length + tb.length := by omega
      have y3 : ¬ 9223372036854775807 < l1.length + tb.length + l2.length := by omega
      have y4 : ¬ 9223372036854775807 < S.length + (l1.length + tb.length + l2.length) := by omega
      have HF : Hid (caTs (x.cases.take (k + 1)) d = S ++ (l1 ++ tb ++ l2)) := Lib.hid (by
        rw [hsn.out, HQ.out, hce.out, ← hl1, ← HL2.out, htb, htn]
        simp only [bytes_app]
        simp [bytesOf', List.append_assoc])
      have k13 := cell_regrown c13
      have q0 := cell_regrown e0
      have q1 := cell_regrown e1
      clear hsn hce s1 s2 gn gb hcc hcm hkb hl1 htn htb hzs HXV ha hc2 hct
      go_upto_region 5 with fail
      clear c0 c1 c2 c3 c4 c5 c6 c7 c8 c9 c10 c11 c12 c13 e0 e1
      refine wp_region_quiet_below (by kernel_rfl) (by kernel_rfl) ?_
      repeat (go_big_quiet_step (first | with_reducible exact Jn.out _ _ | with_reducible exact J1.out _ _ | with_reducible exact Jb.out _ _ | with_reducible exact J2.out _ _))
      refine wpQuiet_nil ?_
      intro _ hw'
      obtain ⟨⟨dq, osq⟩, hw''⟩ := hw'
      subst hw''
      clear k13 q0 q1
      have KV2 := below_step KV (below_regrown wr dq osq)
      have XV2 := XV.below' (below_regrown wr dq osq)
      generalize grow (redrawn wr dq) osq = V at KV2 XV2 ⊢
      go_wp2
      go_roundw
      case rel => exact ⟨k + 1, S ++ (l1 ++ tb ++ l2), by omega, by go_num, by rw [str_appR, str_appR, str_appR], HF, KV2, XV2⟩
      case measure => first | (simp [intOf]; done) | (simp [intOf]; omega)
    · obtain rfl : k = x.cases.length := by omega
      have hq := HQ.out
      rw [List.take_length] at hq
      have HQ2 := Lib.hid hq
      clear hq HQ
      rcases Nat.eq_zero_or_pos x.els.length with he | he
      · have he0 : decide (0 < x.els.length) = false := decide_eq_false (by omega)
        have he1 : ¬ 0 < x.els.length := by omega
        have HEL := Lib.hid he
        clear he
        go_wp2
        go_ret
        exact ⟨by rw [chT, if_pos HEL.out, HQ2.out, List.append_nil]; rfl, KV⟩
      · have he0 : decide (0 < x.els.length) = true := decide_eq_true he
        have hz : ¬ x.els.length = 0 := by omega
        have HEL := Lib.hid hz
        have ged := HG.out.els
        have lte : (stTs x.els (d + 1)).length ≤ 1000 * cntSs x.els := goodSs_len ged (by omega)
        obtain ⟨te, hte⟩ : ∃ t, stTs x.els (d + 1) = t := ⟨_, rfl⟩
        rw [hte] at lte
        have Je := Lib.hid (BodyRAt.re IH.out (w := wr) (l := x.els) (A := h.els.a) (c := h.els.c) (n := d + 1) (z := (d : Int) + 1) (by omega) ged HXV.out.els (by omega) HW2.out (by omega) (by omega) (by omega) hte)
        have J2 := Lib.hid (HJ2.out wr)
        have J3 := Lib.hid (HJ3.out wr)
        have HTE := Lib.hid hte
        have y0 : ¬ 9223372036854775807 < l3.length + te.length := by omega
        have y1 : ¬ 9223372036854775807 < l3.length + te.length + l2.length := by omega
        have y2 : ¬ 9223372036854775807 < S.length + (l3.length + te.length + l2.length) := by omega
        clear ged hte hz hct hc2 HXV
        have k0 := cell_regrown c0
        have k1 := cell_regrown c1
        have k2 := cell_regrown c2
        have k3 := cell_regrown c3
        have k4 := cell_regrown c4
        have k5 := cell_regrown c5
        have k6 := cell_regrown c6
        have k7 := cell_regrown c7
        have k8 := cell_regrown c8
        have k9 := cell_regrown c9
        have k10 := cell_regrown c10
        have k11 := cell_regrown c11
        have k12 := cell_regrown c12
        have k13 := cell_regrown c13
        go_upto_region 7 with fail
        clear c0 c1 c2 c3 c4 c5 c6 c7 c8 c9 c10 c11 c12 c13
        refine wp_region_quiet_below (by kernel_rfl) (by kernel_rfl) ?_
        repeat (go_big_quiet_step (first | with_reducible exact J3.out _ _ | with_reducible exact Je.out _ _ | with_reducible exact J2.out _ _))
        refine wpQuiet_nil ?_
        intro _ hw'
        obtain ⟨⟨dq, osq⟩, hw''⟩ := hw'
        subst hw''
        go_wp2
        go_ret
        refine ⟨str_eq ?_, below_step KV (below_regrown wr dq osq)⟩
        rw [chT, if_neg HEL.out, HQ2.out, HTE.out, ← HL2.out, ← HL3.out]
        simp [ByteArray.data_append, bytesOf', List.append_assoc]
set_option maxRecDepth 100000 in
set_option maxHeartbeats 8000000 in
theorem stR_6 (N : Nat) (H : BodyRAt N) (x : StD) (hk : x.kind = 6) (h : HdS) (q : Nat → Hd) (lv n B : Nat) (w : World) (hs : SizeOf.sizeOf x < N + 1) (g : GoodS lv x) (hx : StIn w B x h q) (hB : B ≤ w.heap.size) (hn : n ≤ 2 * lv) (hc : cntS x ≤ 4096) :
    Calls Tryz.prog 38 #[.agg (stC x h), .int .i64 (n : Int)] w fun e w' => e = .returned (strV (stT x n)) ∧ Below w.heap.size w w' := by
  have HE := Lib.hid (stT_eq x n)
  have hlv : lv ≤ 32 := by obtain ⟨level, _⟩ := g; exact level
  have hnm : x.name.size ≤ 16 := by obtain ⟨_, _, name, _⟩ := g; exact name
  have hc2 := cntS_eq x
  have X0 := Whl.new w 42 (stC x h)
  have K0 := below_alloc (Below.refl w.heap.size w) (.cells (stC x h) 42)
  have HX := Lib.hid (hx.below K0 hB)
  have IH := Lib.hid H
  have b1 : (x.kind == 1) = false := by rw [hk]; rfl
  have b2 : (x.kind == 2) = false := by rw [hk]; rfl
  have b3 : (x.kind == 3) = false := by rw [hk]; rfl
  have b4 : (x.kind == 4) = false := by rw [hk]; rfl
  have b5 : (x.kind == 5) = false := by rw [hk]; rfl
  have b6 : (x.kind == 6) = true := by rw [hk]; rfl
  have ga : GoodE x.a := by obtain ⟨_, _, _, _, _, a, _⟩ := g; exact a (by rw [hk]; rfl)
  have za := cntZ_good ga
  have la := good_len ga
  have lta : (exT x.a).length ≤ 300000 := by omega
  obtain ⟨ta, hta⟩ : ∃ t, exT x.a = t := ⟨_, rfl⟩
  have Ja := exprRe (w := (w.alloc (.cells (stC x h) 42))) (h := h.a) ga HX.out.ea (by simp; omega) (by omega) hta
  rw [hta] at lta
  have z1_0 : (⟨#[115, 119, 105, 116, 99, 104, 32]⟩ : ByteArray).size = 7 := rfl
  have z1_1 : (⟨ta.toArray⟩ : ByteArray).size = ta.length := rfl
  have z1_2 : (⟨#[32, 123]⟩ : ByteArray).size = 2 := rfl
  have hsz1 : ((⟨#[115, 119, 105, 116, 99, 104, 32]⟩ : ByteArray) ++ (⟨ta.toArray⟩ : ByteArray) ++ (⟨#[32, 123]⟩ : ByteArray)).size ≤ 1000000 := by
    (try simp only [ByteArray.size_append, z1_0, z1_1, z1_2])
    omega
  clear z1_0 z1_1 z1_2
  obtain ⟨l1, hl1⟩ : ∃ t, lineT (n) (bytesOf' ((⟨#[115, 119, 105, 116, 99, 104, 32]⟩ : ByteArray) ++ (⟨ta.toArray⟩ : ByteArray) ++ (⟨#[32, 123]⟩ : ByteArray))) = t := ⟨_, rfl⟩
  have J1 := lineRe ((⟨#[115, 119, 105, 116, 99, 104, 32]⟩ : ByteArray) ++ (⟨ta.toArray⟩ : ByteArray) ++ (⟨#[32, 123]⟩ : ByteArray)) (n) (n : Int) (w.alloc (.cells (stC x h) 42)) rfl (by omega) (by omega) l1 hl1
  have ll1 : l1.length ≤ 2000000 := by
    have e : (bytesOf' ((⟨#[115, 119, 105, 116, 99, 104, 32]⟩ : ByteArray) ++ (⟨ta.toArray⟩ : ByteArray) ++ (⟨#[32, 123]⟩ : ByteArray))).length = ((⟨#[115, 119, 105, 116, 99, 104, 32]⟩ : ByteArray) ++ (⟨ta.toArray⟩ : ByteArray) ++ (⟨#[32, 123]⟩ : ByteArray)).size := rfl
    rw [← hl1, lineT_len, e]; omega
  have z2_0 : (⟨#[125]⟩ : ByteArray).size = 1 := rfl
  have hsz2 : ((⟨#[125]⟩ : ByteArray)).size ≤ 1000000 := by
    (try simp only [ByteArray.size_append, z2_0])
    omega
  clear z2_0
  obtain ⟨l2, hl2⟩ : ∃ t, lineT (n) (bytesOf' ((⟨#[125]⟩ : ByteArray))) = t := ⟨_, rfl⟩
  have J2 := lineRe ((⟨#[125]⟩ : ByteArray)) (n) (n : Int) (w.alloc (.cells (stC x h) 42)) rfl (by omega) (by omega) l2 hl2
  have ll2 : l2.length ≤ 2000000 := by
    have e : (bytesOf' ((⟨#[125]⟩ : ByteArray))).length = ((⟨#[125]⟩ : ByteArray)).size := rfl
    rw [← hl2, lineT_len, e]; omega
  have hw1 : IntKind.i64.wrap ((n : Int) + 1) = (n : Int) + 1 := IntWalk.i64_in _ (by omega)
  have hw2 : ((n : Int) + 1) = ((n + 1 : Nat) : Int) := by omega
  have sbx := body_size x
  have sex := els_size x
  have scx := cases_size x
  have hct := caTs_good (d := n + 1) g (by omega)
  have lte : (stTs x.els (n + 1 + 1)).length ≤ 1000 * cntSs x.els := goodSs_len g.els (by omega)
  have lch : (chT x (n + 1)).length ≤ 10000000 := by
    rw [chT]
    split
    · simp only [List.length_append, List.length_nil]; omega
    · simp only [List.length_append, lineT_len, List.length_cons, List.length_nil]; omega
  obtain ⟨tc, htc⟩ : ∃ t, chT x (n + 1) = t := ⟨_, rfl⟩
  rw [htc] at lch
  have Jc : ∀ dd os, Calls Tryz.prog 62 #[.agg (stC x h), .int .i64 ((n : Int) + 1)] (grow (redrawn (w.alloc (.cells (stC x h) 42)) dd) os) fun e w'' => e = .returned (strV tc) ∧ ∃ p : Regrown, w'' = grow (redrawn (w.alloc (.cells (stC x h) 42)) p.d) p.os := fun dd os => by
    subst htc
    exact Calls.regrown_of (choicesR N IH.out x h q lv (n + 1) B ((n : Int) + 1) _ hs g (HX.out.below (below_regrown (w.alloc (.cells (stC x h) 42)) dd os) (by simp; omega)) (Nat.le_trans (by simp; omega) (below_regrown (w.alloc (.cells (stC x h) 42)) dd os).size) hw2 (by omega) hc)
  have y0 : ¬ 9223372036854775807 < 7 + ta.length := by omega
  have y1 : ¬ 9223372036854775807 < 7 + ta.length + 2 := by omega
  have y2 : ¬ 9223372036854775807 < l1.length + tc.length := by omega
  have y3 : ¬ 9223372036854775807 < l1.length + tc.length + l2.length := by omega
  obtain ⟨c0, c1, c2, c3, c4, c5, c6, c7, c8, c9, c10, c11, c12, c13⟩ := X0.cSt
  have HJa := Lib.hid Ja
  have HJ1 := Lib.hid J1
  have HJ2 := Lib.hid J2
  have HJc := Lib.hid Jc
  have HTa := Lib.hid hta
  have HTc := Lib.hid htc
  have HL1 := Lib.hid hl1
  have HL2 := Lib.hid hl2
  have HKK := Lib.hid hk
  clear HX IH g hc2 ga za la Ja J1 J2 Jc X0 hk hl1 hl2 hta htc hw2 sbx sex scx hct lte hx hc
  have k0 := cell_regrown c0
  have k1 := cell_regrown c1
  have k2 := cell_regrown c2
  have k3 := cell_regrown c3
  have k4 := cell_regrown c4
  have k5 := cell_regrown c5
  have k6 := cell_regrown c6
  have k7 := cell_regrown c7
  have k8 := cell_regrown c8
  have k9 := cell_regrown c9
  have k10 := cell_regrown c10
  have k11 := cell_regrown c11
  have k12 := cell_regrown c12
  have k13 := cell_regrown c13
  go_enter Tryz.func38, Tryz.ntmps38
  (try simp only [List.append_eq, List.cons_append, List.nil_append])
  go_upto_region 16 with fail
  clear c0 c1 c2 c3 c4 c5 c6 c7 c8 c9 c10 c11 c12 c13
  refine wp_region_quiet_below (by kernel_rfl) (by kernel_rfl) ?_
  repeat (go_big_quiet_step (first | with_reducible exact HJa.out _ _ | with_reducible exact HJ1.out _ _ | with_reducible exact HJ2.out _ _ | with_reducible exact HJc.out _ _))
  refine wpQuiet_nil ?_
  intro _ hw'
  obtain ⟨⟨dq, osq⟩, hw''⟩ := hw'
  subst hw''
  go_wp2
  go_ret
  rw [HE.out, HKK.out]
  refine ⟨str_eq ?_, below_step K0 (below_regrown _ dq osq)⟩
  simp only [stT, ByteArray.data_append, Array.toList_append, List.append_assoc]
  rw [← HL1.out, ← HL2.out, ← HTc.out, chT]
  simp only [bytes_app, HTa.out]
  simp [bytesOf', List.append_assoc]
theorem stmtRN (N : Nat) (H : BodyRAt N) : StmtRAt (N + 1) := by
  intro x h q lv n B z w hs g hx hB hz hn hc
  subst hz
  have hk := formS_kind (x := x) (by obtain ⟨_, form, _⟩ := g; exact form)
  rcases (by omega : x.kind = 1 ∨ x.kind = 2 ∨ x.kind = 3 ∨ x.kind = 4 ∨ x.kind = 5 ∨ x.kind = 6 ∨ x.kind = 7 ∨ x.kind = 8 ∨ x.kind = 9 ∨ x.kind = 10) with e | e | e | e | e | e | e | e | e | e
  · exact stR_1 N H x e h q lv n B w hs g hx hB hn hc
  · exact stR_2 N H x e h q lv n B w hs g hx hB hn hc
  · exact stR_3 N H x e h q lv n B w hs g hx hB hn hc
  · exact stR_4 N H x e h q lv n B w hs g hx hB hn hc
  · exact stR_5 N H x e h q lv n B w hs g hx hB hn hc
  · exact stR_6 N H x e h q lv n B w hs g hx hB hn hc
  · exact stR_7 N H x e h q lv n B w hs g hx hB hn hc
  · exact stR_8 N H x e h q lv n B w hs g hx hB hn hc
  · exact stR_9 N H x e h q lv n B w hs g hx hB hn hc
  · exact stR_10 N H x e h q lv n B w hs g hx hB hn hc
set_option maxRecDepth 100000 in
set_option maxHeartbeats 4000000 in
theorem bodyRN (N : Nat) (H : StmtRAt N) : BodyRAt (N + 1) := by
  intro l A c lv n B z w hs g hx hB hz hn hn2 hc
  subst hz
  obtain ⟨hd, hcs, rows, kids, len⟩ := hx.open_
  have HR := Lib.hid (rows w.heap.size)
  have HK := Lib.hid kids
  have IH := Lib.hid H
  have HG := Lib.hid g
  have htl := goodSs_len (d := n) g hn
  clear H g hx rows kids
  go_enter Tryz.func20, Tryz.ntmps20
  go_wp2
  go_loopw [5, 6] (fun v i W => ∃ (k : Nat) (S : List UInt8), k ≤ l.length ∧ i = .int .i64 k ∧ v = strV S ∧ Hid (stTs (l.take k) n = S) ∧ Below w.heap.size w W) (fun _ i _ => l.length - (intOf i).toNat)
  case atStart => exact ⟨0, [], Nat.zero_le _, rfl, rfl, Lib.hid (by simp [stTs]), Below.refl _ _⟩
  case round =>
    obtain ⟨k, S, hk, rfl, rfl, HQ, hgr⟩ := hrel
    have l1 := hgr.size
    by_cases hlt : k < l.length
    · have hsz : SizeOf.sizeOf (nthS l k) < SizeOf.sizeOf l := getD_size _ hlt
      have hc1 := cntSs_at hlt
      have T : Turn B w.heap.size w wr := ⟨hgr.mono hB, fun b t cs _ _ h => h.below' hgr⟩
      obtain ⟨b, off, rfl, c0, c1, c2, c3, c4, c5, c6, c7, c8, c9, c10, c11, c12, c13⟩ := HR.out wr T k hlt
      have lb : b < wr.heap.size := World.block_lt_of_cell? _ _ c0
      have hsn := stTs_snoc (d := n) hlt
      have hgk := HG.out k hlt
      have hin := (HK.out k hlt).below hgr hB
      have hll : S.length + (stT (nthS l k) n).length ≤ 5000000 := by
        have e1 := congrArg List.length (stTs_cut l n (k + 1))
        have e2 := congrArg List.length hsn
        rw [HQ.out] at e2
        rw [List.length_append] at e1 e2
        omega
      generalize nthS l k = x at hsz hc1 c0 c1 c2 c3 c4 c5 c6 c7 c8 c9 c10 c11 c12 c13 hsn hgk hin hll
      generalize hd k = h at c0 c1 c2 c3 c4 c5 c6 c7 c8 c9 c10 c11 c12 c13 hin
      generalize hcs k = q at hin
      have HC := Lib.hid (IH.out x h q lv n B (n : Int) wr (by omega) hgk hin (by omega) rfl hn (by omega))
      generalize stT x n = t at hsn hll HC
      have HSN := Lib.hid hsn
      have y0 : ¬ 9223372036854775807 < S.length + t.length := by omega
      clear hsn hgk hin hc1 T htl
      go_wp2_with (go_at_call 38; go_must (refine HC.out.mono ?_; rintro e w1 ⟨rfl, hb1⟩))
      have HF : Hid (stTs (l.take (k + 1)) n = S ++ t) := Lib.hid (by rw [HSN.out, HQ.out])
      go_roundw
      case rel => exact ⟨k + 1, S ++ t, by omega, by go_num, congrArg Value.string (str_appR S t), HF, below_step hgr hb1⟩
      case measure => first | (simp [intOf]; done) | (simp [intOf]; omega)
    · obtain rfl : k = l.length := by omega
      have HQ2 := HQ.out
      rw [List.take_length] at HQ2
      have HF := Lib.hid HQ2
      clear HQ2 HQ
      go_wp2
      go_ret
      exact ⟨by rw [HF.out]; rfl, hgr⟩
theorem bodyAllR (N : Nat) : BodyRAt N ∧ StmtRAt N := by
  induction N with
  | zero => exact ⟨fun l A c lv n B z w hs => by omega, fun x h q lv n B z w hs => by omega⟩
  | succ N ih => exact ⟨bodyRN N ih.2, stmtRN N ih.1⟩
theorem bodyTR (l : List StD) (A : Option Addr) (c lv n B : Nat) (z : Int) (w : World) (g : ∀ k, k < l.length → GoodS lv (nthS l k)) (hx : StsAt w B A l) (hB : B ≤ w.heap.size) (hz : z = (n : Int)) (hn : n ≤ 2 * lv) (hn2 : n ≤ 70) (hc : cntSs l ≤ 4096) :
    Calls Tryz.prog 20 #[.slice A l.length c, .int .i64 z] w fun e w' => e = .returned (strV (stTs l n)) ∧ Below w.heap.size w w' := (bodyAllR _).1 l A c lv n B z w (Nat.lt_succ_self _) g hx hB hz hn hn2 hc
end Go.Proofs.YtdddppmfeoebgaaGreatDoor
