/-
  Layer 2 (tree): the walks of the reference's line, stmt, choices and body.
-/
import Derived.Test.YtdddppmfeoebgaaGreatDoorExprR
import Derived.Test.YtdddppmfeoebgaaGreatDoorStmtA
namespace Go.Proofs.YtdddppmfeoebgaaGreatDoor
open Go.RowKit Go.Sort
set_option linter.unusedSimpArgs false
set_option linter.unusedVariables false
theorem bytes_app (a b : ByteArray) : bytesOf' (a ++ b) = bytesOf' a ++ bytesOf' b := by simp [bytesOf', ByteArray.data_append]
theorem bytes_of (l : List UInt8) : bytesOf' ⟨l.toArray⟩ = l := rfl
theorem str_bytes (s : ByteArray) : Value.string s = strV (bytesOf' s) := by
  cases s; simp [strV, bytesOf']
set_option maxRecDepth 100000 in
set_option maxHeartbeats 2000000 in
theorem lineRP (s : ByteArray) (d : Nat) (z : Int) (w : World) (hz : z = (d : Int)) (hd : d ≤ 1000) (hs : s.size ≤ 1000000000000) :
    Calls Tryz.prog 18 #[.string s, .int .i64 z] w fun e w' => e = .returned (strV (lineT d (bytesOf' s))) ∧ w = w' := by
  subst hz
  go_enter Tryz.func18, Tryz.ntmps18
  go_wp2
  go_loop [5, 6] (fun v i => ∃ k : Nat, k ≤ d ∧ i = .int .i64 k ∧ v = strV (List.replicate (2 * k) 32)) (fun _ i => d - (intOf i).toNat)
  case atStart => exact ⟨0, Nat.zero_le _, rfl, rfl⟩
  case round =>
    obtain ⟨k, hk, rfl, rfl⟩ := hrel
    have hl : (List.replicate (2 * k) (32 : UInt8)).length = 2 * k := List.length_replicate
    by_cases hlt : k < d
    · have HR : Hid (List.replicate (2 * (k + 1)) (32 : UInt8) = List.replicate (2 * k) 32 ++ [32, 32]) := Lib.hid (by rw [show 2 * (k + 1) = 2 * k + 2 by omega, ← List.replicate_append_replicate]; rfl)
      generalize List.replicate (2 * k) (32 : UInt8) = S at hl HR
      have y0 : ¬ 9223372036854775807 < S.length + 2 := by omega
      go_wp2
      go_round
      case rel => exact ⟨k + 1, by omega, by go_num, by rw [HR.out]; exact congrArg Value.string (str_appR S [32, 32])⟩
      case measure => first | (simp [intOf]; done) | (simp [intOf]; omega)
    · obtain rfl : k = d := by omega
      have HE : Hid (lineT k (bytesOf' s) = List.replicate (2 * k) 32 ++ (bytesOf' s ++ [10])) := Lib.hid rfl
      generalize List.replicate (2 * k) (32 : UInt8) = S at hl HE
      have y0 : ¬ 9223372036854775807 < S.length + s.size := by omega
      have y1 : ¬ 9223372036854775807 < S.length + s.size + 1 := by omega
      go_wp2
      go_ret
      refine ⟨str_eq ?_, rfl⟩
      rw [HE.out]
      simp [ByteArray.data_append, bytesOf']
theorem lineRe (s : ByteArray) (d : Nat) (z : Int) (w : World) (hz : z = (d : Int)) (hd : d ≤ 1000) (hs : s.size ≤ 1000000000000) (t : List UInt8) (ht : lineT d (bytesOf' s) = t) (dd : Nat) (os : Array Obj) :
    Calls Tryz.prog 18 #[.string s, .int .i64 z] (grow (redrawn w dd) os) fun e w'' => e = .returned (strV t) ∧ ∃ p : Regrown, w'' = grow (redrawn w p.d) p.os := by
  subst ht
  refine (lineRP s d z _ hz hd hs).mono ?_
  rintro e w' ⟨rfl, rfl⟩
  exact ⟨rfl, ⟨dd, os⟩, rfl⟩
def BodyRAt (N : Nat) : Prop := ∀ (l : List StD) (A : Option Addr) (c lv n B : Nat) (z : Int) (w : World), SizeOf.sizeOf l < N → (∀ k, k < l.length → GoodS lv (nthS l k)) → StsAt w B A l → B ≤ w.heap.size → z = (n : Int) → n ≤ 2 * lv → n ≤ 70 → cntSs l ≤ 4096 →
    Calls Tryz.prog 20 #[.slice A l.length c, .int .i64 z] w fun e w' => e = .returned (strV (stTs l n)) ∧ Below w.heap.size w w'
def StmtRAt (N : Nat) : Prop := ∀ (x : StD) (h : HdS) (q : Nat → Hd) (lv n B : Nat) (z : Int) (w : World), SizeOf.sizeOf x < N → GoodS lv x → StIn w B x h q → B ≤ w.heap.size → z = (n : Int) → n ≤ 2 * lv → cntS x ≤ 4096 →
    Calls Tryz.prog 38 #[.agg (stC x h), .int .i64 z] w fun e w' => e = .returned (strV (stT x n)) ∧ Below w.heap.size w w'
theorem BodyRAt.re {N : Nat} (H : BodyRAt N) {l : List StD} {A : Option Addr} {c lv n B : Nat} {z : Int} {w : World} (hs : SizeOf.sizeOf l < N) (g : ∀ k, k < l.length → GoodS lv (nthS l k)) (hk : StsAt w B A l) (hB : B ≤ w.heap.size) (hz : z = (n : Int)) (hn : n ≤ 2 * lv) (hn2 : n ≤ 70) (hc : cntSs l ≤ 4096) {t : List UInt8} (ht : stTs l n = t) (d : Nat) (os : Array Obj) :
    Calls Tryz.prog 20 #[.slice A l.length c, .int .i64 z] (grow (redrawn w d) os) fun e w'' => e = .returned (strV t) ∧ ∃ p : Regrown, w'' = grow (redrawn w p.d) p.os := by
  subst ht
  exact Calls.regrown_of (H l A c lv n B z _ hs g (hk.keep (below_regrown w d os) hB) (Nat.le_trans hB (below_regrown w d os).size) hz hn hn2 hc)
theorem exprRe {x : ExD} {h : Hd} {B : Nat} {w : World} (g : GoodE x) (hk : ExsAt w B h.a x.args) (hB : B ≤ w.heap.size) (hc : cntE x ≤ 4096) {t : List UInt8} (ht : exT x = t) (d : Nat) (os : Array Obj) :
    Calls Tryz.prog 61 #[exG x h] (grow (redrawn w d) os) fun e w'' => e = .returned (strV t) ∧ ∃ p : Regrown, w'' = grow (redrawn w p.d) p.os := by
  subst ht
  exact Calls.regrown_of (exprTR x h B _ g (hk.keep (below_regrown w d os) hB) (Nat.le_trans hB (below_regrown w d os).size) hc)
theorem numRe {n : Int} {w : World} (hn : In64 n) {t : List UInt8} (ht : numD n = t) (d : Nat) (os : Array Obj) :
    Calls Tryz.prog 17 #[.int .i64 n] (grow (redrawn w d) os) fun e w'' => e = .returned (strV t) ∧ ∃ p : Regrown, w'' = grow (redrawn w p.d) p.os := by
  subst ht
  exact Calls.regrown_of (numR n _ hn)
set_option maxRecDepth 100000 in
set_option maxHeartbeats 8000000 in
theorem stR_1 (N : Nat) (H : BodyRAt N) (x : StD) (hk : x.kind = 1) (h : HdS) (q : Nat → Hd) (lv n B : Nat) (w : World) (hs : SizeOf.sizeOf x < N + 1) (g : GoodS lv x) (hx : StIn w B x h q) (hB : B ≤ w.heap.size) (hn : n ≤ 2 * lv) (hc : cntS x ≤ 4096) :
    Calls Tryz.prog 38 #[.agg (stC x h), .int .i64 (n : Int)] w fun e w' => e = .returned (strV (stT x n)) ∧ Below w.heap.size w w' := by
  have HE := Lib.hid (stT_eq x n)
  have hlv : lv ≤ 32 := by obtain ⟨level, _⟩ := g; exact level
  have hnm : x.name.size ≤ 16 := by obtain ⟨_, _, name, _⟩ := g; exact name
  have hc2 := cntS_eq x
  have X0 := Whl.new w 42 (stC x h)
  have K0 := below_alloc (Below.refl w.heap.size w) (.cells (stC x h) 42)
  have HX := Lib.hid (hx.below K0 hB)
  have IH := Lib.hid H
  have b1 : (x.kind == 1) = true := by rw [hk]; rfl
  have ga : GoodE x.a := by obtain ⟨_, _, _, _, _, a, _⟩ := g; exact a (by rw [hk]; rfl)
  have za := cntZ_good ga
  have la := good_len ga
  have lta : (exT x.a).length ≤ 300000 := by omega
  obtain ⟨ta, hta⟩ : ∃ t, exT x.a = t := ⟨_, rfl⟩
  have Ja := exprRe (w := (w.alloc (.cells (stC x h) 42))) (h := h.a) ga HX.out.ea (by simp; omega) (by omega) hta
  rw [hta] at lta
  have z1_0 : (⟨#[108, 101, 116, 32]⟩ : ByteArray).size = 4 := rfl
  have z1_2 : (⟨#[32, 61, 32]⟩ : ByteArray).size = 3 := rfl
  have z1_3 : (⟨ta.toArray⟩ : ByteArray).size = ta.length := rfl
  have z1_4 : (⟨#[59]⟩ : ByteArray).size = 1 := rfl
  have hsz1 : ((⟨#[108, 101, 116, 32]⟩ : ByteArray) ++ x.name ++ (⟨#[32, 61, 32]⟩ : ByteArray) ++ (⟨ta.toArray⟩ : ByteArray) ++ (⟨#[59]⟩ : ByteArray)).size ≤ 1000000 := by
    (try simp only [ByteArray.size_append, z1_0, z1_2, z1_3, z1_4])
    omega
  clear z1_0 z1_2 z1_3 z1_4
  obtain ⟨l1, hl1⟩ : ∃ t, lineT (n) (bytesOf' ((⟨#[108, 101, 116, 32]⟩ : ByteArray) ++ x.name ++ (⟨#[32, 61, 32]⟩ : ByteArray) ++ (⟨ta.toArray⟩ : ByteArray) ++ (⟨#[59]⟩ : ByteArray))) = t := ⟨_, rfl⟩
  have J1 := lineRe ((⟨#[108, 101, 116, 32]⟩ : ByteArray) ++ x.name ++ (⟨#[32, 61, 32]⟩ : ByteArray) ++ (⟨ta.toArray⟩ : ByteArray) ++ (⟨#[59]⟩ : ByteArray)) (n) (n : Int) (w.alloc (.cells (stC x h) 42)) rfl (by omega) (by omega) l1 hl1
  have ll1 : l1.length ≤ 2000000 := by
    have e : (bytesOf' ((⟨#[108, 101, 116, 32]⟩ : ByteArray) ++ x.name ++ (⟨#[32, 61, 32]⟩ : ByteArray) ++ (⟨ta.toArray⟩ : ByteArray) ++ (⟨#[59]⟩ : ByteArray))).length = ((⟨#[108, 101, 116, 32]⟩ : ByteArray) ++ x.name ++ (⟨#[32, 61, 32]⟩ : ByteArray) ++ (⟨ta.toArray⟩ : ByteArray) ++ (⟨#[59]⟩ : ByteArray)).size := rfl
    rw [← hl1, lineT_len, e]; omega
  have y0 : ¬ 9223372036854775807 < 4 + x.name.size := by omega
  have y1 : ¬ 9223372036854775807 < 4 + x.name.size + 3 := by omega
  have y2 : ¬ 9223372036854775807 < 4 + x.name.size + 3 + ta.length := by omega
  have y3 : ¬ 9223372036854775807 < 4 + x.name.size + 3 + ta.length + 1 := by omega
  obtain ⟨c0, c1, c2, c3, c4, c5, c6, c7, c8, c9, c10, c11, c12, c13⟩ := X0.cSt
  have HJa := Lib.hid Ja
  have HJ1 := Lib.hid J1
  clear HX IH g hx hc2 ga za la Ja J1 X0
  have HTa := Lib.hid hta
  have HL1 := Lib.hid hl1
  have HKK := Lib.hid hk
  clear hk hl1 hta
  have k0 := cell_regrown c0
  have k1 := cell_regrown c1
  have k2 := cell_regrown c2
  have k3 := cell_regrown c3
  have k4 := cell_regrown c4
  have k5 := cell_regrown c5
  have k6 := cell_regrown c6
  have k7 := cell_regrown c7
  have k8 := cell_regrown c8
  have k9 := cell_regrown c9
  have k10 := cell_regrown c10
  have k11 := cell_regrown c11
  have k12 := cell_regrown c12
  have k13 := cell_regrown c13
  go_enter Tryz.func38, Tryz.ntmps38
  (try simp only [List.append_eq, List.cons_append, List.nil_append])
  go_upto_region 3 with fail
  clear c0 c1 c2 c3 c4 c5 c6 c7 c8 c9 c10 c11 c12 c13
  refine wp_region_quiet_below (by kernel_rfl) (by kernel_rfl) ?_
  repeat (go_big_quiet_step (first | with_reducible exact HJa.out _ _ | with_reducible exact HJ1.out _ _))
  refine wpQuiet_nil ?_
  intro _ hw'
  obtain ⟨⟨dq, osq⟩, hw''⟩ := hw'
  subst hw''
  go_wp2
  go_ret
  rw [HE.out, HKK.out]
  refine ⟨?_, below_step K0 (below_regrown _ dq osq)⟩
  rw [← HL1.out]
  simp only [stT, bytes_app, HTa.out]
  first | rfl | simp [bytesOf'] | (simp [bytesOf', List.append_assoc]; done)
set_option maxRecDepth 100000 in
set_option maxHeartbeats 8000000 in
theorem stR_2 (N : Nat) (H : BodyRAt N) (x : StD) (hk : x.kind = 2) (h : HdS) (q : Nat → Hd) (lv n B : Nat) (w : World) (hs : SizeOf.sizeOf x < N + 1) (g : GoodS lv x) (hx : StIn w B x h q) (hB : B ≤ w.heap.size) (hn : n ≤ 2 * lv) (hc : cntS x ≤ 4096) :
    Calls Tryz.prog 38 #[.agg (stC x h), .int .i64 (n : Int)] w fun e w' => e = .returned (strV (stT x n)) ∧ Below w.heap.size w w' := by
  have HE := Lib.hid (stT_eq x n)
  have hlv : lv ≤ 32 := by obtain ⟨level, _⟩ := g; exact level
  have hnm : x.name.size ≤ 16 := by obtain ⟨_, _, name, _⟩ := g; exact name
  have hc2 := cntS_eq x
  have X0 := Whl.new w 42 (stC x h)
  have K0 := below_alloc (Below.refl w.heap.size w) (.cells (stC x h) 42)
  have HX := Lib.hid (hx.below K0 hB)
  have IH := Lib.hid H
  have b1 : (x.kind == 1) = false := by rw [hk]; rfl
  have b2 : (x.kind == 2) = true := by rw [hk]; rfl
  have gn : In64 x.n := by obtain ⟨_, _, _, n0, n1, _⟩ := g; exact ⟨by omega, n1⟩
  have ltn : (numD x.n).length ≤ 20 := numD_len gn
  obtain ⟨tn, htn⟩ : ∃ t, numD x.n = t := ⟨_, rfl⟩
  have Jn := numRe (w := (w.alloc (.cells (stC x h) 42))) gn htn
  rw [htn] at ltn
  have z1_0 : (⟨#[108, 101, 116, 32]⟩ : ByteArray).size = 4 := rfl
  have z1_2 : (⟨#[91]⟩ : ByteArray).size = 1 := rfl
  have z1_3 : (⟨tn.toArray⟩ : ByteArray).size = tn.length := rfl
  have z1_4 : (⟨#[93, 59]⟩ : ByteArray).size = 2 := rfl
  have hsz1 : ((⟨#[108, 101, 116, 32]⟩ : ByteArray) ++ x.name ++ (⟨#[91]⟩ : ByteArray) ++ (⟨tn.toArray⟩ : ByteArray) ++ (⟨#[93, 59]⟩ : ByteArray)).size ≤ 1000000 := by
    (try simp only [ByteArray.size_append, z1_0, z1_2, z1_3, z1_4])
    omega
  clear z1_0 z1_2 z1_3 z1_4
  obtain ⟨l1, hl1⟩ : ∃ t, lineT (n) (bytesOf' ((⟨#[108, 101, 116, 32]⟩ : ByteArray) ++ x.name ++ (⟨#[91]⟩ : ByteArray) ++ (⟨tn.toArray⟩ : ByteArray) ++ (⟨#[93, 59]⟩ : ByteArray))) = t := ⟨_, rfl⟩
  have J1 := lineRe ((⟨#[108, 101, 116, 32]⟩ : ByteArray) ++ x.name ++ (⟨#[91]⟩ : ByteArray) ++ (⟨tn.toArray⟩ : ByteArray) ++ (⟨#[93, 59]⟩ : ByteArray)) (n) (n : Int) (w.alloc (.cells (stC x h) 42)) rfl (by omega) (by omega) l1 hl1
  have ll1 : l1.length ≤ 2000000 := by
    have e : (bytesOf' ((⟨#[108, 101, 116, 32]⟩ : ByteArray) ++ x.name ++ (⟨#[91]⟩ : ByteArray) ++ (⟨tn.toArray⟩ : ByteArray) ++ (⟨#[93, 59]⟩ : ByteArray))).length = ((⟨#[108, 101, 116, 32]⟩ : ByteArray) ++ x.name ++ (⟨#[91]⟩ : ByteArray) ++ (⟨tn.toArray⟩ : ByteArray) ++ (⟨#[93, 59]⟩ : ByteArray)).size := rfl
    rw [← hl1, lineT_len, e]; omega
  have y0 : ¬ 9223372036854775807 < 4 + x.name.size := by omega
  have y1 : ¬ 9223372036854775807 < 4 + x.name.size + 1 := by omega
  have y2 : ¬ 9223372036854775807 < 4 + x.name.size + 1 + tn.length := by omega
  have y3 : ¬ 9223372036854775807 < 4 + x.name.size + 1 + tn.length + 2 := by omega
  obtain ⟨c0, c1, c2, c3, c4, c5, c6, c7, c8, c9, c10, c11, c12, c13⟩ := X0.cSt
  have HJn := Lib.hid Jn
  have HJ1 := Lib.hid J1
  clear HX IH g hx hc2 gn Jn J1 X0
  have HTn := Lib.hid htn
  have HL1 := Lib.hid hl1
  have HKK := Lib.hid hk
  clear hk hl1 htn
  have k0 := cell_regrown c0
  have k1 := cell_regrown c1
  have k2 := cell_regrown c2
  have k3 := cell_regrown c3
  have k4 := cell_regrown c4
  have k5 := cell_regrown c5
  have k6 := cell_regrown c6
  have k7 := cell_regrown c7
  have k8 := cell_regrown c8
  have k9 := cell_regrown c9
  have k10 := cell_regrown c10
  have k11 := cell_regrown c11
  have k12 := cell_regrown c12
  have k13 := cell_regrown c13
  go_enter Tryz.func38, Tryz.ntmps38
  (try simp only [List.append_eq, List.cons_append, List.nil_append])
  go_upto_region 5 with fail
  clear c0 c1 c2 c3 c4 c5 c6 c7 c8 c9 c10 c11 c12 c13
  refine wp_region_quiet_below (by kernel_rfl) (by kernel_rfl) ?_
  repeat (go_big_quiet_step (first | with_reducible exact HJn.out _ _ | with_reducible exact HJ1.out _ _))
  refine wpQuiet_nil ?_
  intro _ hw'
  obtain ⟨⟨dq, osq⟩, hw''⟩ := hw'
  subst hw''
  go_wp2
  go_ret
  rw [HE.out, HKK.out]
  refine ⟨?_, below_step K0 (below_regrown _ dq osq)⟩
  rw [← HL1.out]
  simp only [stT, bytes_app, HTn.out]
  first | rfl | simp [bytesOf'] | (simp [bytesOf', List.append_assoc]; done)
set_option maxRecDepth 100000 in
set_option maxHeartbeats 8000000 in
theorem stR_3 (N : Nat) (H : BodyRAt N) (x : StD) (hk : x.kind = 3) (h : HdS) (q : Nat → Hd) (lv n B : Nat) (w : World) (hs : SizeOf.sizeOf x < N + 1) (g : GoodS lv x) (hx : StIn w B x h q) (hB : B ≤ w.heap.size) (hn : n ≤ 2 * lv) (hc : cntS x ≤ 4096) :
    Calls Tryz.prog 38 #[.agg (stC x h), .int .i64 (n : Int)] w fun e w' => e = .returned (strV (stT x n)) ∧ Below w.heap.size w w' := by
  have HE := Lib.hid (stT_eq x n)
  have hlv : lv ≤ 32 := by obtain ⟨level, _⟩ := g; exact level
  have hnm : x.name.size ≤ 16 := by obtain ⟨_, _, name, _⟩ := g; exact name
  have hc2 := cntS_eq x
  have X0 := Whl.new w 42 (stC x h)
  have K0 := below_alloc (Below.refl w.heap.size w) (.cells (stC x h) 42)
  have HX := Lib.hid (hx.below K0 hB)
  have IH := Lib.hid H
  have b1 : (x.kind == 1) = false := by rw [hk]; rfl
  have b2 : (x.kind == 2) = false := by rw [hk]; rfl
  have b3 : (x.kind == 3) = true := by rw [hk]; rfl
  have ga : GoodE x.a := by obtain ⟨_, _, _, _, _, a, _⟩ := g; exact a (by rw [hk]; rfl)
  have za := cntZ_good ga
  have la := good_len ga
  have lta : (exT x.a).length ≤ 300000 := by omega
  obtain ⟨ta, hta⟩ : ∃ t, exT x.a = t := ⟨_, rfl⟩
  have Ja := exprRe (w := (w.alloc (.cells (stC x h) 42))) (h := h.a) ga HX.out.ea (by simp; omega) (by omega) hta
  rw [hta] at lta
  have z1_1 : (⟨#[32, 61, 32]⟩ : ByteArray).size = 3 := rfl
  have z1_2 : (⟨ta.toArray⟩ : ByteArray).size = ta.length := rfl
  have z1_3 : (⟨#[59]⟩ : ByteArray).size = 1 := rfl
  have hsz1 : (x.name ++ (⟨#[32, 61, 32]⟩ : ByteArray) ++ (⟨ta.toArray⟩ : ByteArray) ++ (⟨#[59]⟩ : ByteArray)).size ≤ 1000000 := by
    (try simp only [ByteArray.size_append, z1_1, z1_2, z1_3])
    omega
  clear z1_1 z1_2 z1_3
  obtain ⟨l1, hl1⟩ : ∃ t, lineT (n) (bytesOf' (x.name ++ (⟨#[32, 61, 32]⟩ : ByteArray) ++ (⟨ta.toArray⟩ : ByteArray) ++ (⟨#[59]⟩ : ByteArray))) = t := ⟨_, rfl⟩
  have J1 := lineRe (x.name ++ (⟨#[32, 61, 32]⟩ : ByteArray) ++ (⟨ta.toArray⟩ : ByteArray) ++ (⟨#[59]⟩ : ByteArray)) (n) (n : Int) (w.alloc (.cells (stC x h) 42)) rfl (by omega) (by omega) l1 hl1
  have ll1 : l1.length ≤ 2000000 := by
    have e : (bytesOf' (x.name ++ (⟨#[32, 61, 32]⟩ : ByteArray) ++ (⟨ta.toArray⟩ : ByteArray) ++ (⟨#[59]⟩ : ByteArray))).length = (x.name ++ (⟨#[32, 61, 32]⟩ : ByteArray) ++ (⟨ta.toArray⟩ : ByteArray) ++ (⟨#[59]⟩ : ByteArray)).size := rfl
    rw [← hl1, lineT_len, e]; omega
  have y0 : ¬ 9223372036854775807 < x.name.size + 3 := by omega
  have y1 : ¬ 9223372036854775807 < x.name.size + 3 + ta.length := by omega
  have y2 : ¬ 9223372036854775807 < x.name.size + 3 + ta.length + 1 := by omega
  obtain ⟨c0, c1, c2, c3, c4, c5, c6, c7, c8, c9, c10, c11, c12, c13⟩ := X0.cSt
  have HJa := Lib.hid Ja
  have HJ1 := Lib.hid J1
  clear HX IH g hx hc2 ga za la Ja J1 X0
  have HTa := Lib.hid hta
  have HL1 := Lib.hid hl1
  have HKK := Lib.hid hk
  clear hk hl1 hta
  have k0 := cell_regrown c0
  have k1 := cell_regrown c1
  have k2 := cell_regrown c2
  have k3 := cell_regrown c3
  have k4 := cell_regrown c4
  have k5 := cell_regrown c5
  have k6 := cell_regrown c6
  have k7 := cell_regrown c7
  have k8 := cell_regrown c8
  have k9 := cell_regrown c9
  have k10 := cell_regrown c10
  have k11 := cell_regrown c11
  have k12 := cell_regrown c12
  have k13 := cell_regrown c13
  go_enter Tryz.func38, Tryz.ntmps38
  (try simp only [List.append_eq, List.cons_append, List.nil_append])
  go_upto_region 7 with fail
  clear c0 c1 c2 c3 c4 c5 c6 c7 c8 c9 c10 c11 c12 c13
  refine wp_region_quiet_below (by kernel_rfl) (by kernel_rfl) ?_
  repeat (go_big_quiet_step (first | with_reducible exact HJa.out _ _ | with_reducible exact HJ1.out _ _))
  refine wpQuiet_nil ?_
  intro _ hw'
  obtain ⟨⟨dq, osq⟩, hw''⟩ := hw'
  subst hw''
  go_wp2
  go_ret
  rw [HE.out, HKK.out]
  refine ⟨?_, below_step K0 (below_regrown _ dq osq)⟩
  rw [← HL1.out]
  simp only [stT, bytes_app, HTa.out]
  first | rfl | simp [bytesOf'] | (simp [bytesOf', List.append_assoc]; done)
set_option maxRecDepth 100000 in
set_option maxHeartbeats 8000000 in
theorem stR_4 (N : Nat) (H : BodyRAt N) (x : StD) (hk : x.kind = 4) (h : HdS) (q : Nat → Hd) (lv n B : Nat) (w : World) (hs : SizeOf.sizeOf x < N + 1) (g : GoodS lv x) (hx : StIn w B x h q) (hB : B ≤ w.heap.size) (hn : n ≤ 2 * lv) (hc : cntS x ≤ 4096) :
    Calls Tryz.prog 38 #[.agg (stC x h), .int .i64 (n : Int)] w fun e w' => e = .returned (strV (stT x n)) ∧ Below w.heap.size w w' := by
  have HE := Lib.hid (stT_eq x n)
  have hlv : lv ≤ 32 := by obtain ⟨level, _⟩ := g; exact level
  have hnm : x.name.size ≤ 16 := by obtain ⟨_, _, name, _⟩ := g; exact name
  have hc2 := cntS_eq x
  have X0 := Whl.new w 42 (stC x h)
  have K0 := below_alloc (Below.refl w.heap.size w) (.cells (stC x h) 42)
  have HX := Lib.hid (hx.below K0 hB)
  have IH := Lib.hid H
  have b1 : (x.kind == 1) = false := by rw [hk]; rfl
  have b2 : (x.kind == 2) = false := by rw [hk]; rfl
  have b3 : (x.kind == 3) = false := by rw [hk]; rfl
  have b4 : (x.kind == 4) = true := by rw [hk]; rfl
  have ga : GoodE x.a := by obtain ⟨_, _, _, _, _, a, _⟩ := g; exact a (by rw [hk]; rfl)
  have za := cntZ_good ga
  have la := good_len ga
  have lta : (exT x.a).length ≤ 300000 := by omega
  obtain ⟨ta, hta⟩ : ∃ t, exT x.a = t := ⟨_, rfl⟩
  have gb : GoodE x.b := by obtain ⟨_, _, _, _, _, _, b, _⟩ := g; exact b (by rw [hk]; rfl)
  have zb := cntZ_good gb
  have lb := good_len gb
  have ltb : (exT x.b).length ≤ 300000 := by omega
  obtain ⟨tb, htb⟩ : ∃ t, exT x.b = t := ⟨_, rfl⟩
  have Ja := exprRe (w := (w.alloc (.cells (stC x h) 42))) (h := h.a) ga HX.out.ea (by simp; omega) (by omega) hta
  rw [hta] at lta
  have Jb := exprRe (w := (w.alloc (.cells (stC x h) 42))) (h := h.b) gb HX.out.eb (by simp; omega) (by omega) htb
  rw [htb] at ltb
  have z1_1 : (⟨#[91]⟩ : ByteArray).size = 1 := rfl
  have z1_2 : (⟨ta.toArray⟩ : ByteArray).size = ta.length := rfl
  have z1_3 : (⟨#[93, 32, 61, 32]⟩ : ByteArray).size = 4 := rfl
  have z1_4 : (⟨tb.toArray⟩ : ByteArray).size = tb.length := rfl
  have z1_5 : (⟨#[59]⟩ : ByteArray).size = 1 := rfl
  have hsz1 : (x.name ++ (⟨#[91]⟩ : ByteArray) ++ (⟨ta.toArray⟩ : ByteArray) ++ (⟨#[93, 32, 61, 32]⟩ : ByteArray) ++ (⟨tb.toArray⟩ : ByteArray) ++ (⟨#[59]⟩ : ByteArray)).size ≤ 1000000 := by
    (try simp only [ByteArray.size_append, z1_1, z1_2, z1_3, z1_4, z1_5])
    omega
  clear z1_1 z1_2 z1_3 z1_4 z1_5
  obtain ⟨l1, hl1⟩ : ∃ t, lineT (n) (bytesOf' (x.name ++ (⟨#[91]⟩ : ByteArray) ++ (⟨ta.toArray⟩ : ByteArray) ++ (⟨#[93, 32, 61, 32]⟩ : ByteArray) ++ (⟨tb.toArray⟩ : ByteArray) ++ (⟨#[59]⟩ : ByteArray))) = t := ⟨_, rfl⟩
  have J1 := lineRe (x.name ++ (⟨#[91]⟩ : ByteArray) ++ (⟨ta.toArray⟩ : ByteArray) ++ (⟨#[93, 32, 61, 32]⟩ : ByteArray) ++ (⟨tb.toArray⟩ : ByteArray) ++ (⟨#[59]⟩ : ByteArray)) (n) (n : Int) (w.alloc (.cells (stC x h) 42)) rfl (by omega) (by omega) l1 hl1
  have ll1 : l1.length ≤ 2000000 := by
    have e : (bytesOf' (x.name ++ (⟨#[91]⟩ : ByteArray) ++ (⟨ta.toArray⟩ : ByteArray) ++ (⟨#[93, 32, 61, 32]⟩ : ByteArray) ++ (⟨tb.toArray⟩ : ByteArray) ++ (⟨#[59]⟩ : ByteArray))).length = (x.name ++ (⟨#[91]⟩ : ByteArray) ++ (⟨ta.toArray⟩ : ByteArray) ++ (⟨#[93, 32, 61, 32]⟩ : ByteArray) ++ (⟨tb.toArray⟩ : ByteArray) ++ (⟨#[59]⟩ : ByteArray)).size := rfl
    rw [← hl1, lineT_len, e]; omega
  have y0 : ¬ 9223372036854775807 < x.name.size + 1 := by omega
  have y1 : ¬ 9223372036854775807 < x.name.size + 1 + ta.length := by omega
  have y2 : ¬ 9223372036854775807 < x.name.size + 1 + ta.length + 4 := by omega
  have y3 : ¬ 9223372036854775807 < x.name.size + 1 + ta.length + 4 + tb.length := by omega
  have y4 : ¬ 9223372036854775807 < x.name.size + 1 + ta.length + 4 + tb.length + 1 := by omega
  obtain ⟨c0, c1, c2, c3, c4, c5, c6, c7, c8, c9, c10, c11, c12, c13⟩ := X0.cSt
  have HJa := Lib.hid Ja
  have HJb := Lib.hid Jb
  have HJ1 := Lib.hid J1
  clear HX IH g hx hc2 ga za la Ja gb zb lb Jb J1 X0
  have HTa := Lib.hid hta
  have HTb := Lib.hid htb
  have HL1 := Lib.hid hl1
  have HKK := Lib.hid hk
  clear hk hl1 hta htb
  have k0 := cell_regrown c0
  have k1 := cell_regrown c1
  have k2 := cell_regrown c2
  have k3 := cell_regrown c3
  have k4 := cell_regrown c4
  have k5 := cell_regrown c5
  have k6 := cell_regrown c6
  have k7 := cell_regrown c7
  have k8 := cell_regrown c8
  have k9 := cell_regrown c9
  have k10 := cell_regrown c10
  have k11 := cell_regrown c11
  have k12 := cell_regrown c12
  have k13 := cell_regrown c13
  go_enter Tryz.func38, Tryz.ntmps38
  (try simp only [List.append_eq, List.cons_append, List.nil_append])
  go_upto_region 9 with fail
  clear c0 c1 c2 c3 c4 c5 c6 c7 c8 c9 c10 c11 c12 c13
  refine wp_region_quiet_below (by kernel_rfl) (by kernel_rfl) ?_
  repeat (go_big_quiet_step (first | with_reducible exact HJa.out _ _ | with_reducible exact HJb.out _ _ | with_reducible exact HJ1.out _ _))
  refine wpQuiet_nil ?_
  intro _ hw'
  obtain ⟨⟨dq, osq⟩, hw''⟩ := hw'
  subst hw''
  go_wp2
  go_ret
  rw [HE.out, HKK.out]
  refine ⟨?_, below_step K0 (below_regrown _ dq osq)⟩
  rw [← HL1.out]
  simp only [stT, bytes_app, HTa.out, HTb.out]
  first | rfl | simp [bytesOf'] | (simp [bytesOf', List.append_assoc]; done)
set_option maxRecDepth 100000 in
set_option maxHeartbeats 8000000 in
theorem stR_8 (N : Nat) (H : BodyRAt N) (x : StD) (hk : x.kind = 8) (h : HdS) (q : Nat → Hd) (lv n B : Nat) (w : World) (hs : SizeOf.sizeOf x < N + 1) (g : GoodS lv x) (hx : StIn w B x h q) (hB : B ≤ w.heap.size) (hn : n ≤ 2 * lv) (hc : cntS x ≤ 4096) :
    Calls Tryz.prog 38 #[.agg (stC x h), .int .i64 (n : Int)] w fun e w' => e = .returned (strV (stT x n)) ∧ Below w.heap.size w w' := by
  have HE := Lib.hid (stT_eq x n)
  have hlv : lv ≤ 32 := by obtain ⟨level, _⟩ := g; exact level
  have hnm : x.name.size ≤ 16 := by obtain ⟨_, _, name, _⟩ := g; exact name
  have hc2 := cntS_eq x
  have X0 := Whl.new w 42 (stC x h)
  have K0 := below_alloc (Below.refl w.heap.size w) (.cells (stC x h) 42)
  have HX := Lib.hid (hx.below K0 hB)
  have IH := Lib.hid H
  have b1 : (x.kind == 1) = false := by rw [hk]; rfl
  have b2 : (x.kind == 2) = false := by rw [hk]; rfl
  have b3 : (x.kind == 3) = false := by rw [hk]; rfl
  have b4 : (x.kind == 4) = false := by rw [hk]; rfl
  have b5 : (x.kind == 5) = false := by rw [hk]; rfl
  have b6 : (x.kind == 6) = false := by rw [hk]; rfl
  have b7 : (x.kind == 7) = false := by rw [hk]; rfl
  have b8 : (x.kind == 8) = true := by rw [hk]; rfl
  have z1_0 : (⟨#[98, 114, 101, 97, 107, 59]⟩ : ByteArray).size = 6 := rfl
  have hsz1 : ((⟨#[98, 114, 101, 97, 107, 59]⟩ : ByteArray)).size ≤ 1000000 := by
    (try simp only [ByteArray.size_append, z1_0])
    omega
  clear z1_0
  obtain ⟨l1, hl1⟩ : ∃ t, lineT (n) (bytesOf' ((⟨#[98, 114, 101, 97, 107, 59]⟩ : ByteArray))) = t := ⟨_, rfl⟩
  have J1 := lineRe ((⟨#[98, 114, 101, 97, 107, 59]⟩ : ByteArray)) (n) (n : Int) (w.alloc (.cells (stC x h) 42)) rfl (by omega) (by omega) l1 hl1
  have ll1 : l1.length ≤ 2000000 := by
    have e : (bytesOf' ((⟨#[98, 114, 101, 97, 107, 59]⟩ : ByteArray))).length = ((⟨#[98, 114, 101, 97, 107, 59]⟩ : ByteArray)).size := rfl
    rw [← hl1, lineT_len, e]; omega
  obtain ⟨c0, c1, c2, c3, c4, c5, c6, c7, c8, c9, c10, c11, c12, c13⟩ := X0.cSt
  have HLI : Hid (∀ W, Calls Tryz.prog 18 #[.string ((⟨#[98, 114, 101, 97, 107, 59]⟩ : ByteArray)), .int .i64 (n : Int)] W fun e w' => e = .returned (strV l1) ∧ W = w') := Lib.hid (fun W => by rw [← hl1]; exact lineRP _ n _ W rfl (by omega) (by omega))
  clear HX IH g hx hc2  J1 X0
  have HL1 := Lib.hid hl1
  have HKK := Lib.hid hk
  clear hk hl1 
  go_enter Tryz.func38, Tryz.ntmps38
  (try simp only [List.append_eq, List.cons_append, List.nil_append])
  go_wp2_with (first | (go_at_call 18; go_must (refine (HLI.out _).mono ?_; rintro e w2 ⟨rfl, rfl⟩)))
  go_ret
  rw [HE.out, HKK.out]
  refine ⟨?_, K0⟩
  rw [← HL1.out]
  simp only [stT, bytes_app, bytes_of]
  first | rfl | simp [bytesOf'] | (simp [bytesOf', List.append_assoc]; done)
set_option maxRecDepth 100000 in
set_option maxHeartbeats 8000000 in
theorem stR_9 (N : Nat) (H : BodyRAt N) (x : StD) (hk : x.kind = 9) (h : HdS) (q : Nat → Hd) (lv n B : Nat) (w : World) (hs : SizeOf.sizeOf x < N + 1) (g : GoodS lv x) (hx : StIn w B x h q) (hB : B ≤ w.heap.size) (hn : n ≤ 2 * lv) (hc : cntS x ≤ 4096) :
    Calls Tryz.prog 38 #[.agg (stC x h), .int .i64 (n : Int)] w fun e w' => e = .returned (strV (stT x n)) ∧ Below w.heap.size w w' := by
  have HE := Lib.hid (stT_eq x n)
  have hlv : lv ≤ 32 := by obtain ⟨level, _⟩ := g; exact level
  have hnm : x.name.size ≤ 16 := by obtain ⟨_, _, name, _⟩ := g; exact name
  have hc2 := cntS_eq x
  have X0 := Whl.new w 42 (stC x h)
  have K0 := below_alloc (Below.refl w.heap.size w) (.cells (stC x h) 42)
  have HX := Lib.hid (hx.below K0 hB)
  have IH := Lib.hid H
  have b1 : (x.kind == 1) = false := by rw [hk]; rfl
  have b2 : (x.kind == 2) = false := by rw [hk]; rfl
  have b3 : (x.kind == 3) = false := by rw [hk]; rfl
  have b4 : (x.kind == 4) = false := by rw [hk]; rfl
  have b5 : (x.kind == 5) = false := by rw [hk]; rfl
  have b6 : (x.kind == 6) = false := by rw [hk]; rfl
  have b7 : (x.kind == 7) = false := by rw [hk]; rfl
  have b8 : (x.kind == 8) = false := by rw [hk]; rfl
  have b9 : (x.kind == 9) = true := by rw [hk]; rfl
  have ga : GoodE x.a := by obtain ⟨_, _, _, _, _, a, _⟩ := g; exact a (by rw [hk]; rfl)
  have za := cntZ_good ga
  have la := good_len ga
  have lta : (exT x.a).length ≤ 300000 := by omega
  obtain ⟨ta, hta⟩ : ∃ t, exT x.a = t := ⟨_, rfl⟩
  have Ja := exprRe (w := (w.alloc (.cells (stC x h) 42))) (h := h.a) ga HX.out.ea (by simp; omega) (by omega) hta
  rw [hta] at lta
  have z1_0 : (⟨#[114, 101, 116, 117, 114, 110, 32]⟩ : ByteArray).size = 7 := rfl
  have z1_1 : (⟨ta.toArray⟩ : ByteArray).size = ta.length := rfl
  have z1_2 : (⟨#[59]⟩ : ByteArray).size = 1 := rfl
  have hsz1 : ((⟨#[114, 101, 116, 117, 114, 110, 32]⟩ : ByteArray) ++ (⟨ta.toArray⟩ : ByteArray) ++ (⟨#[59]⟩ : ByteArray)).size ≤ 1000000 := by
    (try simp only [ByteArray.size_append, z1_0, z1_1, z1_2])
    omega
  clear z1_0 z1_1 z1_2
  obtain ⟨l1, hl1⟩ : ∃ t, lineT (n) (bytesOf' ((⟨#[114, 101, 116, 117, 114, 110, 32]⟩ : ByteArray) ++ (⟨ta.toArray⟩ : ByteArray) ++ (⟨#[59]⟩ : ByteArray))) = t := ⟨_, rfl⟩
  have J1 := lineRe ((⟨#[114, 101, 116, 117, 114, 110, 32]⟩ : ByteArray) ++ (⟨ta.toArray⟩ : ByteArray) ++ (⟨#[59]⟩ : ByteArray)) (n) (n : Int) (w.alloc (.cells (stC x h) 42)) rfl (by omega) (by omega) l1 hl1
  have ll1 : l1.length ≤ 2000000 := by
    have e : (bytesOf' ((⟨#[114, 101, 116, 117, 114, 110, 32]⟩ : ByteArray) ++ (⟨ta.toArray⟩ : ByteArray) ++ (⟨#[59]⟩ : ByteArray))).length = ((⟨#[114, 101, 116, 117, 114, 110, 32]⟩ : ByteArray) ++ (⟨ta.toArray⟩ : ByteArray) ++ (⟨#[59]⟩ : ByteArray)).size := rfl
    rw [← hl1, lineT_len, e]; omega
  have y0 : ¬ 9223372036854775807 < 7 + ta.length := by omega
  have y1 : ¬ 9223372036854775807 < 7 + ta.length + 1 := by omega
  obtain ⟨c0, c1, c2, c3, c4, c5, c6, c7, c8, c9, c10, c11, c12, c13⟩ := X0.cSt
  have HC : Hid (Calls Tryz.prog 61 #[exG x.a h.a] (w.alloc (.cells (stC x h) 42)) fun e w' => e = .returned (strV ta) ∧ Below ((w.alloc (.cells (stC x h) 42))).heap.size (w.alloc (.cells (stC x h) 42)) w') := Lib.hid (by rw [← hta]; exact exprTR x.a h.a B _ ga HX.out.ea (by simp; omega) (by omega))
  have HLI : Hid (∀ W, Calls Tryz.prog 18 #[.string ((⟨#[114, 101, 116, 117, 114, 110, 32]⟩ : ByteArray) ++ (⟨ta.toArray⟩ : ByteArray) ++ (⟨#[59]⟩ : ByteArray)), .int .i64 (n : Int)] W fun e w' => e = .returned (strV l1) ∧ W = w') := Lib.hid (fun W => by rw [← hl1]; exact lineRP _ n _ W rfl (by omega) (by omega))
  clear HX IH g hx hc2 ga za la Ja J1 X0
  have HTa := Lib.hid hta
  have HL1 := Lib.hid hl1
  have HKK := Lib.hid hk
  clear hk hl1 hta
  go_enter Tryz.func38, Tryz.ntmps38
  (try simp only [List.append_eq, List.cons_append, List.nil_append])
  go_wp2_with (first | (go_at_call 61; go_must (refine (HC.out).mono ?_; rintro e w1 ⟨rfl, hb1⟩)) | (go_at_call 18; go_must (refine (HLI.out _).mono ?_; rintro e w2 ⟨rfl, rfl⟩)))
  go_ret
  rw [HE.out, HKK.out]
  refine ⟨?_, below_step K0 hb1⟩
  rw [← HL1.out]
  simp only [stT, bytes_app, HTa.out]
  first | rfl | simp [bytesOf'] | (simp [bytesOf', List.append_assoc]; done)
set_option maxRecDepth 100000 in
set_option maxHeartbeats 8000000 in
theorem stR_10 (N : Nat) (H : BodyRAt N) (x : StD) (hk : x.kind = 10) (h : HdS) (q : Nat → Hd) (lv n B : Nat) (w : World) (hs : SizeOf.sizeOf x < N + 1) (g : GoodS lv x) (hx : StIn w B x h q) (hB : B ≤ w.heap.size) (hn : n ≤ 2 * lv) (hc : cntS x ≤ 4096) :
    Calls Tryz.prog 38 #[.agg (stC x h), .int .i64 (n : Int)] w fun e w' => e = .returned (strV (stT x n)) ∧ Below w.heap.size w w' := by
  have HE := Lib.hid (stT_eq x n)
  have hlv : lv ≤ 32 := by obtain ⟨level, _⟩ := g; exact level
  have hnm : x.name.size ≤ 16 := by obtain ⟨_, _, name, _⟩ := g; exact name
  have hc2 := cntS_eq x
  have X0 := Whl.new w 42 (stC x h)
  have K0 := below_alloc (Below.refl w.heap.size w) (.cells (stC x h) 42)
  have HX := Lib.hid (hx.below K0 hB)
  have IH := Lib.hid H
  have b1 : (x.kind == 1) = false := by rw [hk]; rfl
  have b2 : (x.kind == 2) = false := by rw [hk]; rfl
  have b3 : (x.kind == 3) = false := by rw [hk]; rfl
  have b4 : (x.kind == 4) = false := by rw [hk]; rfl
  have b5 : (x.kind == 5) = false := by rw [hk]; rfl
  have b6 : (x.kind == 6) = false := by rw [hk]; rfl
  have b7 : (x.kind == 7) = false := by rw [hk]; rfl
  have b8 : (x.kind == 8) = false := by rw [hk]; rfl
  have b9 : (x.kind == 9) = false := by rw [hk]; rfl
  have ga : GoodE x.a := by obtain ⟨_, _, _, _, _, a, _⟩ := g; exact a (by rw [hk]; rfl)
  have za := cntZ_good ga
  have la := good_len ga
  have lta : (exT x.a).length ≤ 300000 := by omega
  obtain ⟨ta, hta⟩ : ∃ t, exT x.a = t := ⟨_, rfl⟩
  have Ja := exprRe (w := (w.alloc (.cells (stC x h) 42))) (h := h.a) ga HX.out.ea (by simp; omega) (by omega) hta
  rw [hta] at lta
  have z1_0 : (⟨ta.toArray⟩ : ByteArray).size = ta.length := rfl
  have z1_1 : (⟨#[59]⟩ : ByteArray).size = 1 := rfl
  have hsz1 : ((⟨ta.toArray⟩ : ByteArray) ++ (⟨#[59]⟩ : ByteArray)).size ≤ 1000000 := by
    (try simp only [ByteArray.size_append, z1_0, z1_1])
    omega
  clear z1_0 z1_1
  obtain ⟨l1, hl1⟩ : ∃ t, lineT (n) (bytesOf' ((⟨ta.toArray⟩ : ByteArray) ++ (⟨#[59]⟩ : ByteArray))) = t := ⟨_, rfl⟩
  have J1 := lineRe ((⟨ta.toArray⟩ : ByteArray) ++ (⟨#[59]⟩ : ByteArray)) (n) (n : Int) (w.alloc (.cells (stC x h) 42)) rfl (by omega) (by omega) l1 hl1
  have ll1 : l1.length ≤ 2000000 := by
    have e : (bytesOf' ((⟨ta.toArray⟩ : ByteArray) ++ (⟨#[59]⟩ : ByteArray))).length = ((⟨ta.toArray⟩ : ByteArray) ++ (⟨#[59]⟩ : ByteArray)).size := rfl
    rw [← hl1, lineT_len, e]; omega
  have y0 : ¬ 9223372036854775807 < ta.length + 1 := by omega
  obtain ⟨c0, c1, c2, c3, c4, c5, c6, c7, c8, c9, c10, c11, c12, c13⟩ := X0.cSt
  have HC : Hid (Calls Tryz.prog 61 #[exG x.a h.a] (w.alloc (.cells (stC x h) 42)) fun e w' => e = .returned (strV ta) ∧ Below ((w.alloc (.cells (stC x h) 42))).heap.size (w.alloc (.cells (stC x h) 42)) w') := Lib.hid (by rw [← hta]; exact exprTR x.a h.a B _ ga HX.out.ea (by simp; omega) (by omega))
  have HLI : Hid (∀ W, Calls Tryz.prog 18 #[.string ((⟨ta.toArray⟩ : ByteArray) ++ (⟨#[59]⟩ : ByteArray)), .int .i64 (n : Int)] W fun e w' => e = .returned (strV l1) ∧ W = w') := Lib.hid (fun W => by rw [← hl1]; exact lineRP _ n _ W rfl (by omega) (by omega))
  clear HX IH g hx hc2 ga za la Ja J1 X0
  have HTa := Lib.hid hta
  have HL1 := Lib.hid hl1
  have HKK := Lib.hid hk
  clear hk hl1 hta
  go_enter Tryz.func38, Tryz.ntmps38
  (try simp only [List.append_eq, List.cons_append, List.nil_append])
  go_wp2_with (first | (go_at_call 61; go_must (refine (HC.out).mono ?_; rintro e w1 ⟨rfl, hb1⟩)) | (go_at_call 18; go_must (refine (HLI.out _).mono ?_; rintro e w2 ⟨rfl, rfl⟩)))
  go_ret
  rw [HE.out, HKK.out]
  refine ⟨?_, below_step K0 hb1⟩
  rw [← HL1.out]
  simp only [stT, bytes_app, HTa.out]
  first | rfl | simp [bytesOf'] | (simp [bytesOf', List.append_assoc]; done)
end Go.Proofs.YtdddppmfeoebgaaGreatDoor
