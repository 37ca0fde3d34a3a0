/-
  Layer 2 (tree): the walks of the reference's within, list and Expr.
-/
import Derived.Test.YtdddppmfeoebgaaGreatDoorText
import Derived.Test.YtdddppmfeoebgaaGreatDoorNumR
import Derived.Lib.QuietBelow
import Derived.Deep.CutBlock
namespace Go.Proofs.YtdddppmfeoebgaaGreatDoor
open Go.RowKit Go.Sort
set_option linter.unusedSimpArgs false
set_option linter.unusedVariables false
def ExprAt (N : Nat) : Prop := ∀ (x : ExD) (h : Hd) (B : Nat) (w : World), SizeOf.sizeOf x < N → GoodE x → ExsAt w B h.a x.args → B ≤ w.heap.size → cntE x ≤ 4096 →
    Calls Tryz.prog 61 #[exG x h] w fun e w' => e = .returned (strV (exT x)) ∧ Below w.heap.size w w'
theorem ExprAt.re {N : Nat} (H : ExprAt N) {x : ExD} {h : Hd} {B : Nat} {w : World} (hs : SizeOf.sizeOf x < N) (g : GoodE x) (hk : ExsAt w B h.a x.args) (hB : B ≤ w.heap.size) (hc : cntE x ≤ 4096) (d : Nat) (os : Array Obj) :
    Calls Tryz.prog 61 #[exG x h] (grow (redrawn w d) os) fun e w'' => e = .returned (strV (exT x)) ∧ ∃ p : Regrown, w'' = grow (redrawn w p.d) p.os :=
  Calls.regrown_of (H x h B _ hs g (hk.keep (below_regrown w d os) hB) (Nat.le_trans hB (below_regrown w d os).size) hc)
set_option maxRecDepth 100000 in
set_option maxHeartbeats 4000000 in
theorem withinR (N : Nat) (H : ExprAt N) (x : ExD) (h : Hd) (z : Int) (B : Nat) (w : World) (hs : SizeOf.sizeOf x < N) (g : GoodE x) (hx : ExsAt w B h.a x.args) (hB : B ≤ w.heap.size) (hc : cntE x ≤ 4096) :
    Calls Tryz.prog 90 #[exG x h, .int .i64 z] w fun e w' => e = .returned (strV (parT (decide (rankD x.kind < z)) (exT x))) ∧ Below w.heap.size w w' := by
  have L0 : (exT x).length ≤ 300000 := by have := good_len g; omega
  have y0 : ¬ 9223372036854775807 < 1 + (exT x).length := by omega
  have y1 : ¬ 9223372036854775807 < 1 + (exT x).length + 1 := by omega
  have H0 := Lib.hid (H x h B (w.alloc (.cells (exC x h) 35)) hs g (hx.keep ((Below.refl _ _).alloc (Nat.le_refl _) _) hB) (by simp; omega) hc)
  clear H g hx
  generalize exT x = t at L0 y0 y1 H0 ⊢
  cases hz : decide (rankD x.kind < z)
  · go_enter Tryz.func90, Tryz.ntmps90
    go_wp2_with (first | (go_at_call 88; (with_reducible refine (rankR x.kind _).mono ?_); rintro e w' ⟨rfl, rfl⟩) | (go_at_call 61; go_must (refine H0.out.mono ?_; rintro e w1 ⟨rfl, hb1⟩)))
    go_ret
    exact ⟨rfl, below_step ((Below.refl _ _).alloc (Nat.le_refl _) _) hb1⟩
  · go_enter Tryz.func90, Tryz.ntmps90
    go_wp2_with (first | (go_at_call 88; (with_reducible refine (rankR x.kind _).mono ?_); rintro e w' ⟨rfl, rfl⟩) | (go_at_call 61; go_must (refine H0.out.mono ?_; rintro e w1 ⟨rfl, hb1⟩)))
    go_ret
    refine ⟨str_eq ?_, below_step ((Below.refl _ _).alloc (Nat.le_refl _) _) hb1⟩
    simp [ByteArray.data_append, parT]
theorem withinR.re {N : Nat} (H : ExprAt N) {x : ExD} {h : Hd} {z : Int} {B : Nat} {w : World} (hs : SizeOf.sizeOf x < N) (g : GoodE x) (hk : ExsAt w B h.a x.args) (hB : B ≤ w.heap.size) (hc : cntE x ≤ 4096) (d : Nat) (os : Array Obj) :
    Calls Tryz.prog 90 #[exG x h, .int .i64 z] (grow (redrawn w d) os) fun e w'' => e = .returned (strV (parT (decide (rankD x.kind < z)) (exT x))) ∧ ∃ p : Regrown, w'' = grow (redrawn w p.d) p.os :=
  Calls.regrown_of (withinR N H x h z B _ hs g (hk.keep (below_regrown w d os) hB) (Nat.le_trans hB (below_regrown w d os).size) hc)
theorem joinT_snoc : ∀ (l : List (List UInt8)) (x : List UInt8), l ≠ [] → joinT (l ++ [x]) = joinT l ++ (44 :: 32 :: x)
  | [], x, h => absurd rfl h
  | [a], x, _ => by simp [joinT]
  | a :: b :: r, x, _ => by
    have := joinT_snoc (b :: r) x (by simp)
    simp only [List.cons_append] at this ⊢
    rw [joinT, this, joinT]; simp
theorem joinT_bd (M : Nat) : ∀ l : List (List UInt8), (∀ t ∈ l, t.length ≤ M) → (joinT l).length ≤ (M + 2) * l.length
  | [], _ => by simp [joinT]
  | [a], h => by have := h a (by simp); simp [joinT]; omega
  | a :: b :: r, h => by
    have h1 := h a (by simp)
    have h2 := joinT_bd M (b :: r) fun t ht => h t (by simp at ht ⊢; exact .inr ht)
    rw [joinT]
    simp only [List.length_append, List.length_cons] at h2 ⊢
    rw [Nat.mul_add, Nat.mul_one] at h2 ⊢
    rw [Nat.mul_add, Nat.mul_one]
    omega
set_option maxRecDepth 100000 in
set_option maxHeartbeats 4000000 in
theorem listR (N : Nat) (H : ExprAt N) (l : List ExD) (A : Option Addr) (c B : Nat) (w : World) (hs : SizeOf.sizeOf l < N + 1) (g : ∀ k, k < l.length → GoodE (nthE l k)) (hx : ExsAt w B A l) (hB : B ≤ w.heap.size) (hc : cntEs l ≤ 4096) :
    Calls Tryz.prog 89 #[.slice A l.length c] w fun e w' => e = .returned (strV (joinT (exTs l))) ∧ Below w.heap.size w w' := by
  obtain ⟨hd, rows, kids, hcap, wfs⟩ := hx.open_ w.heap.size
  have HR := Lib.hid rows
  have HS := Lib.hid kids
  have IH := Lib.hid H
  have HG := Lib.hid g
  have hla := len_cntEs l
  clear rows kids wfs H g hx
  go_enter Tryz.func89, Tryz.ntmps89
  go_wp2
  go_loopw [3, 4] (fun v i W => ∃ (k : Nat) (S : List UInt8), k ≤ l.length ∧ i = .int .i64 k ∧ v = strV S ∧ Hid (joinT (exTs (l.take k)) = S) ∧ S.length ≤ 300002 * k ∧ Below w.heap.size w W) (fun _ i _ => l.length - (intOf i).toNat)
  case atStart => exact ⟨0, [], Nat.zero_le _, rfl, rfl, Lib.hid (by simp [exTs, joinT]), by simp, Below.refl _ _⟩
  case round =>
    obtain ⟨k, S, hk, rfl, rfl, HQ, hSl, hgr⟩ := hrel
    have l1 := hgr.size
    by_cases hlt : k < l.length
    · have hsz : SizeOf.sizeOf (nthE l k) < SizeOf.sizeOf l := getD_size _ hlt
      have hc1 := cnt_mem hlt
      have hgl := good_len (HG.out k hlt)
      have L0 : (exT (nthE l k)).length ≤ 300000 := by omega
      have T : Turn B w.heap.size w wr := ⟨hgr.mono hB, fun b t cs _ _ h => h.below' hgr⟩
      obtain ⟨b, off, rfl, c0, c1, c2, c3⟩ := HR.out wr T k hlt
      have lb : b < wr.heap.size := World.block_lt_of_cell? _ _ c0
      have hsn := exTs_snoc hlt
      have HC := Lib.hid (IH.out (nthE l k) (hd k) B wr (by omega) (HG.out k hlt) ((HS.out k hlt).keep hgr hB) (by omega) (by omega))
      generalize nthE l k = x at c0 c1 c2 c3 L0 hsn HC
      generalize exT x = t at L0 hsn HC
      have y0 : ¬ 9223372036854775807 < S.length + 2 := by omega
      have y1 : ¬ 9223372036854775807 < S.length + 2 + t.length := by omega
      have y2 : ¬ 9223372036854775807 < S.length + t.length := by omega
      have HSN := Lib.hid hsn
      clear hsn hgl hc1 T
      rcases Nat.eq_zero_or_pos k with hz | hz
      · have hd0 : decide (0 < k) = false := by simp; omega
        have hd1 : ¬ 0 < k := by omega
        have HZ := Lib.hid hz
        clear hz
        go_wp2_with (go_at_call 61; go_must (refine HC.out.mono ?_; rintro e w1 ⟨rfl, hb1⟩))
        have HF : Hid (joinT (exTs (l.take (k + 1))) = S ++ t) := Lib.hid (by
          rw [HSN.out, ← HQ.out, show k = 0 from HZ.out]; simp [exTs, joinT])
        go_roundw
        case rel => exact ⟨k + 1, S ++ t, by omega, by go_num, congrArg Value.string (str_appR S t), HF, by rw [List.length_append]; omega, below_step hgr hb1⟩
        case measure => first | (simp [intOf]; done) | (simp [intOf]; omega)
      · have hd0 : decide (0 < k) = true := by simp; omega
        go_wp2_with (go_at_call 61; go_must (refine HC.out.mono ?_; rintro e w1 ⟨rfl, hb1⟩))
        have HF : Hid (joinT (exTs (l.take (k + 1))) = (S ++ [44, 32]) ++ t) := Lib.hid (by
          rw [HSN.out, ← HQ.out, joinT_snoc _ _ (fun e => by have := congrArg List.length e; rw [exTs_len, List.length_take, List.length_nil] at this; omega)]; simp)
        go_roundw
        case rel => exact ⟨k + 1, (S ++ [44, 32]) ++ t, by omega, by go_num, by rw [show (⟨#[44, 32]⟩ : ByteArray) = ⟨([44, 32] : List UInt8).toArray⟩ from rfl, str_appR, str_appR], HF, by simp only [List.length_append, List.length_cons, List.length_nil]; omega, below_step hgr hb1⟩
        case measure => first | (simp [intOf]; done) | (simp [intOf]; omega)
    · obtain rfl : k = l.length := by omega
      have HQ2 := HQ.out
      rw [List.take_length] at HQ2
      have HF := Lib.hid HQ2
      clear HQ2 HQ
      go_wp2
      go_ret
      exact ⟨by rw [HF.out]; rfl, hgr⟩
set_option maxRecDepth 100000 in
set_option maxHeartbeats 4000000 in
theorem exprR_1 (N : Nat) (H : ExprAt N) (x : ExD) (hk : x.kind = 1) (h : Hd) (B : Nat) (w : World) (hs : SizeOf.sizeOf x < N + 1) (g : GoodE x) (hx : ExsAt w B h.a x.args) (hB : B ≤ w.heap.size) (hc : cntE x ≤ 4096) :
    Calls Tryz.prog 61 #[exG x h] w fun e w' => e = .returned (strV (exT x)) ∧ Below w.heap.size w w' := by
  have hr := rankD_bd x.kind
  have hn0 := g.n0
  have hn1 := g.n1
  have hnm := g.name
  have IH := Lib.hid H
  have HG := Lib.hid g
  have HX := Lib.hid hx
  have HE := Lib.hid (exT_eq x)
  clear H g hx
  have b1 : (x.kind == 1) = true := by rw [hk]; rfl
  have HK := Lib.hid hk
  clear hk
  go_enter Tryz.func61, Tryz.ntmps61
  (try simp only [List.append_eq, List.cons_append, List.nil_append])
  go_wp2_with (first | (go_at_call 88; (with_reducible refine (rankR x.kind _).mono ?_); rintro e w' ⟨rfl, rfl⟩) | (go_at_call 17; go_must ((refine (numR x.n _ ⟨by omega, hn1⟩).mono ?_; rintro e w1 ⟨rfl, hb1⟩))))
  go_ret
  refine ⟨?_, below_step ((Below.refl _ _).alloc (Nat.le_refl _) _) hb1⟩
  rw [HE.out, exT0, HK.out]; rfl
set_option maxRecDepth 100000 in
set_option maxHeartbeats 4000000 in
theorem exprR_2 (N : Nat) (H : ExprAt N) (x : ExD) (hk : x.kind = 2) (h : Hd) (B : Nat) (w : World) (hs : SizeOf.sizeOf x < N + 1) (g : GoodE x) (hx : ExsAt w B h.a x.args) (hB : B ≤ w.heap.size) (hc : cntE x ≤ 4096) :
    Calls Tryz.prog 61 #[exG x h] w fun e w' => e = .returned (strV (exT x)) ∧ Below w.heap.size w w' := by
  have hr := rankD_bd x.kind
  have hn0 := g.n0
  have hn1 := g.n1
  have hnm := g.name
  have IH := Lib.hid H
  have HG := Lib.hid g
  have HX := Lib.hid hx
  have HE := Lib.hid (exT_eq x)
  clear H g hx
  have b1 : (x.kind == 1) = false := by simp only [beq_eq_false_iff_ne]; omega
  have b2 : (x.kind == 2) = true := by rw [hk]; rfl
  have HK := Lib.hid hk
  clear hk
  go_enter Tryz.func61, Tryz.ntmps61
  (try simp only [List.append_eq, List.cons_append, List.nil_append])
  go_wp2_with (go_at_call 88; (with_reducible refine (rankR x.kind _).mono ?_); rintro e w' ⟨rfl, rfl⟩)
  go_ret
  refine ⟨?_, (Below.refl _ _).alloc (Nat.le_refl _) _⟩
  rw [HE.out, exT0, HK.out]; rfl
set_option maxRecDepth 100000 in
set_option maxHeartbeats 4000000 in
theorem exprR_5 (N : Nat) (H : ExprAt N) (x : ExD) (hk : x.kind = 5) (h : Hd) (B : Nat) (w : World) (hs : SizeOf.sizeOf x < N + 1) (g : GoodE x) (hx : ExsAt w B h.a x.args) (hB : B ≤ w.heap.size) (hc : cntE x ≤ 4096) :
    Calls Tryz.prog 61 #[exG x h] w fun e w' => e = .returned (strV (exT x)) ∧ Below w.heap.size w w' := by
  have hr := rankD_bd x.kind
  have hn0 := g.n0
  have hn1 := g.n1
  have hnm := g.name
  have IH := Lib.hid H
  have HG := Lib.hid g
  have HX := Lib.hid hx
  have HE := Lib.hid (exT_eq x)
  clear H g hx
  have b1 : (x.kind == 1) = false := by simp only [beq_eq_false_iff_ne]; omega
  have b2 : (x.kind == 2) = false := by simp only [beq_eq_false_iff_ne]; omega
  have b3 : (x.kind == 3) = false := by simp only [beq_eq_false_iff_ne]; omega
  have b4 : (x.kind == 4) = false := by simp only [beq_eq_false_iff_ne]; omega
  have b5 : (x.kind == 5) = true := by rw [hk]; rfl
  have HK := Lib.hid hk
  clear hk
  have hl : x.args.length = 1 := by have := args_of HG.out.form; rw [HK.out] at this; have := this.1; simp [arD] at this; omega
  obtain ⟨hd, rows, kids, hcap, wfs⟩ := HX.out.open_ 0
  have hsx := args_size x
  have hcx := cntE_eq x
  obtain ⟨b, off, hb, e00, e01, e02, e03⟩ := rows w (Turn.refl _ _ _) 0 (by omega)
  rw [Nat.zero_mul, Nat.add_zero] at e00 e01 e02 e03
  have lb : b < w.heap.size := World.block_lt_of_cell? w _ e00
  have S0 : SizeOf.sizeOf (nthE x.args 0) < N := by have : SizeOf.sizeOf (nthE x.args 0) < SizeOf.sizeOf x.args := getD_size _ (by omega); omega
  have G0 := Lib.hid (HG.out.kids 0 (by omega))
  have K0 := Lib.hid (kids 0 (by omega))
  have C0 : cntE (nthE x.args 0) ≤ 4096 := by have := cnt_mem (l := x.args) (k := 0) (by omega); omega
  have L0 : (exT (nthE x.args 0)).length ≤ 300000 := by have := good_len (HG.out.kids 0 (by omega)); omega
  have T0 := Lib.hid (exTs_get (l := x.args) (k := 0) (by omega))
  have HL := Lib.hid hl
  clear hsx hcx rows kids wfs
  have P0 := parT_len (decide (rankD (nthE x.args 0).kind < 8)) (exT (nthE x.args 0))
  go_enter Tryz.func61, Tryz.ntmps61
  (try simp only [List.append_eq, List.cons_append, List.nil_append])
  go_wp2_with (first | (go_at_call 88; (with_reducible refine (rankR x.kind _).mono ?_); rintro e w' ⟨rfl, rfl⟩) | (go_at_call 90; go_must ((refine (withinR N IH.out (nthE x.args 0) (hd 0) _ B _ S0 G0.out (K0.out.keep ((Below.refl _ _).alloc (Nat.le_refl _) _) hB) (by simp; omega) C0).mono ?_; rintro e w1 ⟨rfl, hb1⟩))))
  go_ret
  refine ⟨str_eq ?_, below_step ((Below.refl _ _).alloc (Nat.le_refl _) _) hb1⟩
  rw [exT_5 HK.out HL.out, HK.out]
  simp [ByteArray.data_append, rankD]
set_option maxRecDepth 100000 in
set_option maxHeartbeats 4000000 in
theorem exprR_6 (N : Nat) (H : ExprAt N) (x : ExD) (hk : x.kind = 6) (h : Hd) (B : Nat) (w : World) (hs : SizeOf.sizeOf x < N + 1) (g : GoodE x) (hx : ExsAt w B h.a x.args) (hB : B ≤ w.heap.size) (hc : cntE x ≤ 4096) :
    Calls Tryz.prog 61 #[exG x h] w fun e w' => e = .returned (strV (exT x)) ∧ Below w.heap.size w w' := by
  have hr := rankD_bd x.kind
  have hn0 := g.n0
  have hn1 := g.n1
  have hnm := g.name
  have IH := Lib.hid H
  have HG := Lib.hid g
  have HX := Lib.hid hx
  have HE := Lib.hid (exT_eq x)
  clear H g hx
  have b1 : (x.kind == 1) = false := by simp only [beq_eq_false_iff_ne]; omega
  have b2 : (x.kind == 2) = false := by simp only [beq_eq_false_iff_ne]; omega
  have b3 : (x.kind == 3) = false := by simp only [beq_eq_false_iff_ne]; omega
  have b4 : (x.kind == 4) = false := by simp only [beq_eq_false_iff_ne]; omega
  have b5 : (x.kind == 5) = false := by simp only [beq_eq_false_iff_ne]; omega
  have b6 : (x.kind == 6) = true := by rw [hk]; rfl
  have HK := Lib.hid hk
  clear hk
  have hl : x.args.length = 1 := by have := args_of HG.out.form; rw [HK.out] at this; have := this.1; simp [arD] at this; omega
  obtain ⟨hd, rows, kids, hcap, wfs⟩ := HX.out.open_ 0
  have hsx := args_size x
  have hcx := cntE_eq x
  obtain ⟨b, off, hb, e00, e01, e02, e03⟩ := rows w (Turn.refl _ _ _) 0 (by omega)
  rw [Nat.zero_mul, Nat.add_zero] at e00 e01 e02 e03
  have lb : b < w.heap.size := World.block_lt_of_cell? w _ e00
  have S0 : SizeOf.sizeOf (nthE x.args 0) < N := by have : SizeOf.sizeOf (nthE x.args 0) < SizeOf.sizeOf x.args := getD_size _ (by omega); omega
  have G0 := Lib.hid (HG.out.kids 0 (by omega))
  have K0 := Lib.hid (kids 0 (by omega))
  have C0 : cntE (nthE x.args 0) ≤ 4096 := by have := cnt_mem (l := x.args) (k := 0) (by omega); omega
  have L0 : (exT (nthE x.args 0)).length ≤ 300000 := by have := good_len (HG.out.kids 0 (by omega)); omega
  have T0 := Lib.hid (exTs_get (l := x.args) (k := 0) (by omega))
  have HL := Lib.hid hl
  clear hsx hcx rows kids wfs
  have P0 := parT_len (decide (rankD (nthE x.args 0).kind < 8)) (exT (nthE x.args 0))
  go_enter Tryz.func61, Tryz.ntmps61
  (try simp only [List.append_eq, List.cons_append, List.nil_append])
  go_wp2_with (first | (go_at_call 88; (with_reducible refine (rankR x.kind _).mono ?_); rintro e w' ⟨rfl, rfl⟩) | (go_at_call 90; go_must ((refine (withinR N IH.out (nthE x.args 0) (hd 0) _ B _ S0 G0.out (K0.out.keep ((Below.refl _ _).alloc (Nat.le_refl _) _) hB) (by simp; omega) C0).mono ?_; rintro e w1 ⟨rfl, hb1⟩))))
  go_ret
  refine ⟨str_eq ?_, below_step ((Below.refl _ _).alloc (Nat.le_refl _) _) hb1⟩
  rw [exT_6 HK.out HL.out, HK.out]
  simp [ByteArray.data_append, rankD]
set_option maxRecDepth 100000 in
set_option maxHeartbeats 4000000 in
theorem exprR_3 (N : Nat) (H : ExprAt N) (x : ExD) (hk : x.kind = 3) (h : Hd) (B : Nat) (w : World) (hs : SizeOf.sizeOf x < N + 1) (g : GoodE x) (hx : ExsAt w B h.a x.args) (hB : B ≤ w.heap.size) (hc : cntE x ≤ 4096) :
    Calls Tryz.prog 61 #[exG x h] w fun e w' => e = .returned (strV (exT x)) ∧ Below w.heap.size w w' := by
  have hr := rankD_bd x.kind
  have hn0 := g.n0
  have hn1 := g.n1
  have hnm := g.name
  have IH := Lib.hid H
  have HG := Lib.hid g
  have HX := Lib.hid hx
  have HE := Lib.hid (exT_eq x)
  clear H g hx
  have b1 : (x.kind == 1) = false := by simp only [beq_eq_false_iff_ne]; omega
  have b2 : (x.kind == 2) = false := by simp only [beq_eq_false_iff_ne]; omega
  have b3 : (x.kind == 3) = true := by rw [hk]; rfl
  have HK := Lib.hid hk
  clear hk
  have hl : x.args.length = 1 := by have := args_of HG.out.form; rw [HK.out] at this; have := this.1; simp [arD] at this; omega
  obtain ⟨hd, rows, kids, hcap, wfs⟩ := HX.out.open_ 0
  have hsx := args_size x
  have hcx := cntE_eq x
  obtain ⟨b, off, hb, e00, e01, e02, e03⟩ := rows w (Turn.refl _ _ _) 0 (by omega)
  rw [Nat.zero_mul, Nat.add_zero] at e00 e01 e02 e03
  have lb : b < w.heap.size := World.block_lt_of_cell? w _ e00
  have S0 : SizeOf.sizeOf (nthE x.args 0) < N := by have : SizeOf.sizeOf (nthE x.args 0) < SizeOf.sizeOf x.args := getD_size _ (by omega); omega
  have G0 := Lib.hid (HG.out.kids 0 (by omega))
  have K0 := Lib.hid (kids 0 (by omega))
  have C0 : cntE (nthE x.args 0) ≤ 4096 := by have := cnt_mem (l := x.args) (k := 0) (by omega); omega
  have L0 : (exT (nthE x.args 0)).length ≤ 300000 := by have := good_len (HG.out.kids 0 (by omega)); omega
  have T0 := Lib.hid (exTs_get (l := x.args) (k := 0) (by omega))
  have HL := Lib.hid hl
  clear hsx hcx rows kids wfs
  have W0 : Whl (w.alloc (.cells (exC x h) 35)) w.heap.size 35 (exC x h) := Whl.new _ _ _
  obtain ⟨d0, d1, d2, d3⟩ := W0.c4
  have k0 := cell_regrown d0
  have k2 := cell_regrown d2
  have k3 := cell_regrown d3
  have m00 : (w.alloc (.cells (exC x h) 35)).cell? ⟨b, off, none⟩ = _ := ((((Below.refl _ _).alloc (Nat.le_refl _) _ : Below w.heap.size w (w.alloc (.cells (exC x h) 35))).cell (p := ⟨b, off, none⟩) lb).trans e00)
  have q00 := cell_regrown m00
  have m01 : (w.alloc (.cells (exC x h) 35)).cell? ⟨b, off + 1, none⟩ = _ := ((((Below.refl _ _).alloc (Nat.le_refl _) _ : Below w.heap.size w (w.alloc (.cells (exC x h) 35))).cell (p := ⟨b, off + 1, none⟩) lb).trans e01)
  have q01 := cell_regrown m01
  have m02 : (w.alloc (.cells (exC x h) 35)).cell? ⟨b, off + 2, none⟩ = _ := ((((Below.refl _ _).alloc (Nat.le_refl _) _ : Below w.heap.size w (w.alloc (.cells (exC x h) 35))).cell (p := ⟨b, off + 2, none⟩) lb).trans e02)
  have q02 := cell_regrown m02
  have m03 : (w.alloc (.cells (exC x h) 35)).cell? ⟨b, off + 3, none⟩ = _ := ((((Below.refl _ _).alloc (Nat.le_refl _) _ : Below w.heap.size w (w.alloc (.cells (exC x h) 35))).cell (p := ⟨b, off + 3, none⟩) lb).trans e03)
  have q03 := cell_regrown m03
  have J0 := IH.out.re (w := (w.alloc (.cells (exC x h) 35))) (h := hd 0) S0 G0.out (K0.out.keep ((Below.refl _ _).alloc (Nat.le_refl _) _) hB) (by simp; omega) C0
  go_enter Tryz.func61, Tryz.ntmps61
  (try simp only [List.append_eq, List.cons_append, List.nil_append])
  go_upto_region 7 with (go_at_call 88; (with_reducible refine (rankR x.kind _).mono ?_); rintro e w' ⟨rfl, rfl⟩)
  refine wp_region_quiet_below (by kernel_rfl) (by kernel_rfl) ?_
  have y0 : ¬ 9223372036854775807 < x.name.size + 1 := by omega
  have y1 : ¬ 9223372036854775807 < x.name.size + 1 + (exT (nthE x.args 0)).length := by omega
  have y2 : ¬ 9223372036854775807 < x.name.size + 1 + (exT (nthE x.args 0)).length + 1 := by omega
  repeat (go_big_quiet_step (first | with_reducible exact J0 _ _))
  refine wpQuiet_nil ?_
  intro _ hw'
  obtain ⟨⟨dq, osq⟩, hw''⟩ := hw'
  subst hw''
  go_wp2
  go_ret
  refine ⟨str_eq ?_, below_step ((Below.refl _ _).alloc (Nat.le_refl _) _) (below_regrown _ dq osq)⟩
  rw [exT_3 HK.out HL.out]
  simp [ByteArray.data_append, bytesOf']
set_option maxRecDepth 100000 in
set_option maxHeartbeats 4000000 in
theorem exprR_20 (N : Nat) (H : ExprAt N) (x : ExD) (hk : x.kind = 20) (h : Hd) (B : Nat) (w : World) (hs : SizeOf.sizeOf x < N + 1) (g : GoodE x) (hx : ExsAt w B h.a x.args) (hB : B ≤ w.heap.size) (hc : cntE x ≤ 4096) :
    Calls Tryz.prog 61 #[exG x h] w fun e w' => e = .returned (strV (exT x)) ∧ Below w.heap.size w w' := by
  have hr := rankD_bd x.kind
  have hn0 := g.n0
  have hn1 := g.n1
  have hnm := g.name
  have IH := Lib.hid H
  have HG := Lib.hid g
  have HX := Lib.hid hx
  have HE := Lib.hid (exT_eq x)
  clear H g hx
  have b1 : (x.kind == 1) = false := by simp only [beq_eq_false_iff_ne]; omega
  have b2 : (x.kind == 2) = false := by simp only [beq_eq_false_iff_ne]; omega
  have b3 : (x.kind == 3) = false := by simp only [beq_eq_false_iff_ne]; omega
  have b4 : (x.kind == 4) = false := by simp only [beq_eq_false_iff_ne]; omega
  have b5 : (x.kind == 5) = false := by simp only [beq_eq_false_iff_ne]; omega
  have b6 : (x.kind == 6) = false := by simp only [beq_eq_false_iff_ne]; omega
  have b20 : (x.kind == 20) = true := by rw [hk]; rfl
  have HK := Lib.hid hk
  clear hk
  have hl : x.args.length = 3 := by have := args_of HG.out.form; rw [HK.out] at this; have := this.1; simp [arD] at this; omega
  obtain ⟨hd, rows, kids, hcap, wfs⟩ := HX.out.open_ 0
  have hsx := args_size x
  have hcx := cntE_eq x
  obtain ⟨b, off, hb, e00, e01, e02, e03⟩ := rows w (Turn.refl _ _ _) 0 (by omega)
  have e1 : w.cell? ⟨b, off + 1 * 4, none⟩ = some (.int .i64 (nthE x.args 1).kind) ∧ w.cell? ⟨b, off + 1 * 4 + 1, none⟩ = some (.int .i64 (nthE x.args 1).n) ∧ w.cell? ⟨b, off + 1 * 4 + 2, none⟩ = some (.string (nthE x.args 1).name) ∧ w.cell? ⟨b, off + 1 * 4 + 3, none⟩ = some (.slice (hd 1).a (nthE x.args 1).args.length (hd 1).c) := by
    obtain ⟨b', off', hb', q0, q1, q2, q3⟩ := rows w (Turn.refl _ _ _) 1 (by omega)
    rw [hb] at hb'; cases hb'; exact ⟨q0, q1, q2, q3⟩
  obtain ⟨e10, e11, e12, e13⟩ := e1
  have e2 : w.cell? ⟨b, off + 2 * 4, none⟩ = some (.int .i64 (nthE x.args 2).kind) ∧ w.cell? ⟨b, off + 2 * 4 + 1, none⟩ = some (.int .i64 (nthE x.args 2).n) ∧ w.cell? ⟨b, off + 2 * 4 + 2, none⟩ = some (.string (nthE x.args 2).name) ∧ w.cell? ⟨b, off + 2 * 4 + 3, none⟩ = some (.slice (hd 2).a (nthE x.args 2).args.length (hd 2).c) := by
    obtain ⟨b', off', hb', q0, q1, q2, q3⟩ := rows w (Turn.refl _ _ _) 2 (by omega)
    rw [hb] at hb'; cases hb'; exact ⟨q0, q1, q2, q3⟩
  obtain ⟨e20, e21, e22, e23⟩ := e2
  rw [Nat.zero_mul, Nat.add_zero] at e00 e01 e02 e03
  have lb : b < w.heap.size := World.block_lt_of_cell? w _ e00
  have S0 : SizeOf.sizeOf (nthE x.args 0) < N := by have : SizeOf.sizeOf (nthE x.args 0) < SizeOf.sizeOf x.args := getD_size _ (by omega); omega
  have G0 := Lib.hid (HG.out.kids 0 (by omega))
  have K0 := Lib.hid (kids 0 (by omega))
  have C0 : cntE (nthE x.args 0) ≤ 4096 := by have := cnt_mem (l := x.args) (k := 0) (by omega); omega
  have L0 : (exT (nthE x.args 0)).length ≤ 300000 := by have := good_len (HG.out.kids 0 (by omega)); omega
  have T0 := Lib.hid (exTs_get (l := x.args) (k := 0) (by omega))
  have S1 : SizeOf.sizeOf (nthE x.args 1) < N := by have : SizeOf.sizeOf (nthE x.args 1) < SizeOf.sizeOf x.args := getD_size _ (by omega); omega
  have G1 := Lib.hid (HG.out.kids 1 (by omega))
  have K1 := Lib.hid (kids 1 (by omega))
  have C1 : cntE (nthE x.args 1) ≤ 4096 := by have := cnt_mem (l := x.args) (k := 1) (by omega); omega
  have L1 : (exT (nthE x.args 1)).length ≤ 300000 := by have := good_len (HG.out.kids 1 (by omega)); omega
  have T1 := Lib.hid (exTs_get (l := x.args) (k := 1) (by omega))
  have S2 : SizeOf.sizeOf (nthE x.args 2) < N := by have : SizeOf.sizeOf (nthE x.args 2) < SizeOf.sizeOf x.args := getD_size _ (by omega); omega
  have G2 := Lib.hid (HG.out.kids 2 (by omega))
  have K2 := Lib.hid (kids 2 (by omega))
  have C2 : cntE (nthE x.args 2) ≤ 4096 := by have := cnt_mem (l := x.args) (k := 2) (by omega); omega
  have L2 : (exT (nthE x.args 2)).length ≤ 300000 := by have := good_len (HG.out.kids 2 (by omega)); omega
  have T2 := Lib.hid (exTs_get (l := x.args) (k := 2) (by omega))
  have HL := Lib.hid hl
  clear hsx hcx rows kids wfs
  have P0 := parT_len (decide (rankD (nthE x.args 0).kind < 2)) (exT (nthE x.args 0))
  have W0 : Whl (w.alloc (.cells (exC x h) 35)) w.heap.size 35 (exC x h) := Whl.new _ _ _
  obtain ⟨d0, d1, d2, d3⟩ := W0.c4
  have k0 := cell_regrown d0
  have k2 := cell_regrown d2
  have k3 := cell_regrown d3
  have m00 : (w.alloc (.cells (exC x h) 35)).cell? ⟨b, off, none⟩ = _ := ((((Below.refl _ _).alloc (Nat.le_refl _) _ : Below w.heap.size w (w.alloc (.cells (exC x h) 35))).cell (p := ⟨b, off, none⟩) lb).trans e00)
  have q00 := cell_regrown m00
  have m01 : (w.alloc (.cells (exC x h) 35)).cell? ⟨b, off + 1, none⟩ = _ := ((((Below.refl _ _).alloc (Nat.le_refl _) _ : Below w.heap.size w (w.alloc (.cells (exC x h) 35))).cell (p := ⟨b, off + 1, none⟩) lb).trans e01)
  have q01 := cell_regrown m01
  have m02 : (w.alloc (.cells (exC x h) 35)).cell? ⟨b, off + 2, none⟩ = _ := ((((Below.refl _ _).alloc (Nat.le_refl _) _ : Below w.heap.size w (w.alloc (.cells (exC x h) 35))).cell (p := ⟨b, off + 2, none⟩) lb).trans e02)
  have q02 := cell_regrown m02
  have m03 : (w.alloc (.cells (exC x h) 35)).cell? ⟨b, off + 3, none⟩ = _ := ((((Below.refl _ _).alloc (Nat.le_refl _) _ : Below w.heap.size w (w.alloc (.cells (exC x h) 35))).cell (p := ⟨b, off + 3, none⟩) lb).trans e03)
  have q03 := cell_regrown m03
  have m10 : (w.alloc (.cells (exC x h) 35)).cell? ⟨b, off + 4, none⟩ = _ := ((((Below.refl _ _).alloc (Nat.le_refl _) _ : Below w.heap.size w (w.alloc (.cells (exC x h) 35))).cell (p := ⟨b, off + 4, none⟩) lb).trans e10)
  have q10 := cell_regrown m10
  have m11 : (w.alloc (.cells (exC x h) 35)).cell? ⟨b, off + 4 + 1, none⟩ = _ := ((((Below.refl _ _).alloc (Nat.le_refl _) _ : Below w.heap.size w (w.alloc (.cells (exC x h) 35))).cell (p := ⟨b, off + 4 + 1, none⟩) lb).trans e11)
  have q11 := cell_regrown m11
  have m12 : (w.alloc (.cells (exC x h) 35)).cell? ⟨b, off + 4 + 2, none⟩ = _ := ((((Below.refl _ _).alloc (Nat.le_refl _) _ : Below w.heap.size w (w.alloc (.cells (exC x h) 35))).cell (p := ⟨b, off + 4 + 2, none⟩) lb).trans e12)
  have q12 := cell_regrown m12
  have m13 : (w.alloc (.cells (exC x h) 35)).cell? ⟨b, off + 4 + 3, none⟩ = _ := ((((Below.refl _ _).alloc (Nat.le_refl _) _ : Below w.heap.size w (w.alloc (.cells (exC x h) 35))).cell (p := ⟨b, off + 4 + 3, none⟩) lb).trans e13)
  have q13 := cell_regrown m13
  have m20 : (w.alloc (.cells (exC x h) 35)).cell? ⟨b, off + 8, none⟩ = _ := ((((Below.refl _ _).alloc (Nat.le_refl _) _ : Below w.heap.size w (w.alloc (.cells (exC x h) 35))).cell (p := ⟨b, off + 8, none⟩) lb).trans e20)
  have q20 := cell_regrown m20
  have m21 : (w.alloc (.cells (exC x h) 35)).cell? ⟨b, off + 8 + 1, none⟩ = _ := ((((Below.refl _ _).alloc (Nat.le_refl _) _ : Below w.heap.size w (w.alloc (.cells (exC x h) 35))).cell (p := ⟨b, off + 8 + 1, none⟩) lb).trans e21)
  have q21 := cell_regrown m21
  have m22 : (w.alloc (.cells (exC x h) 35)).cell? ⟨b, off + 8 + 2, none⟩ = _ := ((((Below.refl _ _).alloc (Nat.le_refl _) _ : Below w.heap.size w (w.alloc (.cells (exC x h) 35))).cell (p := ⟨b, off + 8 + 2, none⟩) lb).trans e22)
  have q22 := cell_regrown m22
  have m23 : (w.alloc (.cells (exC x h) 35)).cell? ⟨b, off + 8 + 3, none⟩ = _ := ((((Below.refl _ _).alloc (Nat.le_refl _) _ : Below w.heap.size w (w.alloc (.cells (exC x h) 35))).cell (p := ⟨b, off + 8 + 3, none⟩) lb).trans e23)
  have q23 := cell_regrown m23
  have J0 := withinR.re IH.out (w := (w.alloc (.cells (exC x h) 35))) (z := 2) (h := hd 0) S0 G0.out (K0.out.keep ((Below.refl _ _).alloc (Nat.le_refl _) _) hB) (by simp; omega) C0
  have J1 := IH.out.re (w := (w.alloc (.cells (exC x h) 35))) (h := hd 1) S1 G1.out (K1.out.keep ((Below.refl _ _).alloc (Nat.le_refl _) _) hB) (by simp; omega) C1
  have J2 := IH.out.re (w := (w.alloc (.cells (exC x h) 35))) (h := hd 2) S2 G2.out (K2.out.keep ((Below.refl _ _).alloc (Nat.le_refl _) _) hB) (by simp; omega) C2
  go_enter Tryz.func61, Tryz.ntmps61
  (try simp only [List.append_eq, List.cons_append, List.nil_append])
  go_upto_region 15 with (go_at_call 88; (with_reducible refine (rankR x.kind _).mono ?_); rintro e w' ⟨rfl, rfl⟩)
  refine wp_region_quiet_below (by kernel_rfl) (by kernel_rfl) ?_
  have y0 : ¬ 9223372036854775807 < (parT (decide (rankD (nthE x.args 0).kind < 2)) (exT (nthE x.args 0))).length + 3 := by omega
  have y1 : ¬ 9223372036854775807 < (parT (decide (rankD (nthE x.args 0).kind < 2)) (exT (nthE x.args 0))).length + 3 + (exT (nthE x.args 1)).length := by omega
  have y2 : ¬ 9223372036854775807 < (parT (decide (rankD (nthE x.args 0).kind < 2)) (exT (nthE x.args 0))).length + 3 + (exT (nthE x.args 1)).length + 3 := by omega
  have y3 : ¬ 9223372036854775807 < (parT (decide (rankD (nthE x.args 0).kind < 2)) (exT (nthE x.args 0))).length + 3 + (exT (nthE x.args 1)).length + 3 + (exT (nthE x.args 2)).length := by omega
  repeat (go_big_quiet_step (first | with_reducible exact J0 _ _ | with_reducible exact J1 _ _ | with_reducible exact J2 _ _))
  refine wpQuiet_nil ?_
  intro _ hw'
  obtain ⟨⟨dq, osq⟩, hw''⟩ := hw'
  subst hw''
  go_wp2
  go_ret
  refine ⟨str_eq ?_, below_step ((Below.refl _ _).alloc (Nat.le_refl _) _) (below_regrown _ dq osq)⟩
  rw [HE.out, exT0, HK.out]
  simp only [argT]
  rw [T0.out, T1.out, T2.out]
  simp [ByteArray.data_append]
set_option maxRecDepth 100000 in
set_option maxHeartbeats 4000000 in
theorem exprR_bin (N : Nat) (H : ExprAt N) (x : ExD) (hk : 7 ≤ x.kind ∧ x.kind ≤ 19) (h : Hd) (B : Nat) (w : World) (hs : SizeOf.sizeOf x < N + 1) (g : GoodE x) (hx : ExsAt w B h.a x.args) (hB : B ≤ w.heap.size) (hc : cntE x ≤ 4096) :
    Calls Tryz.prog 61 #[exG x h] w fun e w' => e = .returned (strV (exT x)) ∧ Below w.heap.size w w' := by
  have hr := rankD_bd x.kind
  have hn0 := g.n0
  have hn1 := g.n1
  have hnm := g.name
  have IH := Lib.hid H
  have HG := Lib.hid g
  have HX := Lib.hid hx
  have HE := Lib.hid (exT_eq x)
  clear H g hx
  have b1 : (x.kind == 1) = false := by simp only [beq_eq_false_iff_ne]; omega
  have b2 : (x.kind == 2) = false := by simp only [beq_eq_false_iff_ne]; omega
  have b3 : (x.kind == 3) = false := by simp only [beq_eq_false_iff_ne]; omega
  have b4 : (x.kind == 4) = false := by simp only [beq_eq_false_iff_ne]; omega
  have b5 : (x.kind == 5) = false := by simp only [beq_eq_false_iff_ne]; omega
  have b6 : (x.kind == 6) = false := by simp only [beq_eq_false_iff_ne]; omega
  have b20 : (x.kind == 20) = false := by simp only [beq_eq_false_iff_ne]; omega
  have HK := Lib.hid hk
  clear hk
  have hl : x.args.length = 2 := by have := (args_of HG.out.form).1; rw [(ar_no (k := x.kind) ⟨by have := HK.out; omega, by have := HK.out; omega⟩).1] at this; omega
  obtain ⟨hd, rows, kids, hcap, wfs⟩ := HX.out.open_ 0
  have hsx := args_size x
  have hcx := cntE_eq x
  obtain ⟨b, off, hb, e00, e01, e02, e03⟩ := rows w (Turn.refl _ _ _) 0 (by omega)
  have e1 : w.cell? ⟨b, off + 1 * 4, none⟩ = some (.int .i64 (nthE x.args 1).kind) ∧ w.cell? ⟨b, off + 1 * 4 + 1, none⟩ = some (.int .i64 (nthE x.args 1).n) ∧ w.cell? ⟨b, off + 1 * 4 + 2, none⟩ = some (.string (nthE x.args 1).name) ∧ w.cell? ⟨b, off + 1 * 4 + 3, none⟩ = some (.slice (hd 1).a (nthE x.args 1).args.length (hd 1).c) := by
    obtain ⟨b', off', hb', q0, q1, q2, q3⟩ := rows w (Turn.refl _ _ _) 1 (by omega)
    rw [hb] at hb'; cases hb'; exact ⟨q0, q1, q2, q3⟩
  obtain ⟨e10, e11, e12, e13⟩ := e1
  rw [Nat.zero_mul, Nat.add_zero] at e00 e01 e02 e03
  have lb : b < w.heap.size := World.block_lt_of_cell? w _ e00
  have S0 : SizeOf.sizeOf (nthE x.args 0) < N := by have : SizeOf.sizeOf (nthE x.args 0) < SizeOf.sizeOf x.args := getD_size _ (by omega); omega
  have G0 := Lib.hid (HG.out.kids 0 (by omega))
  have K0 := Lib.hid (kids 0 (by omega))
  have C0 : cntE (nthE x.args 0) ≤ 4096 := by have := cnt_mem (l := x.args) (k := 0) (by omega); omega
  have L0 : (exT (nthE x.args 0)).length ≤ 300000 := by have := good_len (HG.out.kids 0 (by omega)); omega
  have T0 := Lib.hid (exTs_get (l := x.args) (k := 0) (by omega))
  have S1 : SizeOf.sizeOf (nthE x.args 1) < N := by have : SizeOf.sizeOf (nthE x.args 1) < SizeOf.sizeOf x.args := getD_size _ (by omega); omega
  have G1 := Lib.hid (HG.out.kids 1 (by omega))
  have K1 := Lib.hid (kids 1 (by omega))
  have C1 : cntE (nthE x.args 1) ≤ 4096 := by have := cnt_mem (l := x.args) (k := 1) (by omega); omega
  have L1 : (exT (nthE x.args 1)).length ≤ 300000 := by have := good_len (HG.out.kids 1 (by omega)); omega
  have T1 := Lib.hid (exTs_get (l := x.args) (k := 1) (by omega))
  have HL := Lib.hid hl
  clear hsx hcx rows kids wfs
  have P0 := parT_len (decide (rankD (nthE x.args 0).kind < rankD x.kind)) (exT (nthE x.args 0))
  have P1 := parT_len (decide (rankD (nthE x.args 1).kind < rankD x.kind + 1)) (exT (nthE x.args 1))
  have hsg := signT_len x.kind
  have hw1 : IntKind.i64.wrap (rankD x.kind + 1) = rankD x.kind + 1 := IntWalk.i64_in _ (by omega)
  have W0 : Whl (w.alloc (.cells (exC x h) 35)) w.heap.size 35 (exC x h) := Whl.new _ _ _
  obtain ⟨d0, d1, d2, d3⟩ := W0.c4
  have k0 := cell_regrown d0
  have k2 := cell_regrown d2
  have k3 := cell_regrown d3
  have m00 : (w.alloc (.cells (exC x h) 35)).cell? ⟨b, off, none⟩ = _ := ((((Below.refl _ _).alloc (Nat.le_refl _) _ : Below w.heap.size w (w.alloc (.cells (exC x h) 35))).cell (p := ⟨b, off, none⟩) lb).trans e00)
  have q00 := cell_regrown m00
  have m01 : (w.alloc (.cells (exC x h) 35)).cell? ⟨b, off + 1, none⟩ = _ := ((((Below.refl _ _).alloc (Nat.le_refl _) _ : Below w.heap.size w (w.alloc (.cells (exC x h) 35))).cell (p := ⟨b, off + 1, none⟩) lb).trans e01)
  have q01 := cell_regrown m01
  have m02 : (w.alloc (.cells (exC x h) 35)).cell? ⟨b, off + 2, none⟩ = _ := ((((Below.refl _ _).alloc (Nat.le_refl _) _ : Below w.heap.size w (w.alloc (.cells (exC x h) 35))).cell (p := ⟨b, off + 2, none⟩) lb).trans e02)
  have q02 := cell_regrown m02
  have m03 : (w.alloc (.cells (exC x h) 35)).cell? ⟨b, off + 3, none⟩ = _ := ((((Below.refl _ _).alloc (Nat.le_refl _) _ : Below w.heap.size w (w.alloc (.cells (exC x h) 35))).cell (p := ⟨b, off + 3, none⟩) lb).trans e03)
  have q03 := cell_regrown m03
  have m10 : (w.alloc (.cells (exC x h) 35)).cell? ⟨b, off + 4, none⟩ = _ := ((((Below.refl _ _).alloc (Nat.le_refl _) _ : Below w.heap.size w (w.alloc (.cells (exC x h) 35))).cell (p := ⟨b, off + 4, none⟩) lb).trans e10)
  have q10 := cell_regrown m10
  have m11 : (w.alloc (.cells (exC x h) 35)).cell? ⟨b, off + 4 + 1, none⟩ = _ := ((((Below.refl _ _).alloc (Nat.le_refl _) _ : Below w.heap.size w (w.alloc (.cells (exC x h) 35))).cell (p := ⟨b, off + 4 + 1, none⟩) lb).trans e11)
  have q11 := cell_regrown m11
  have m12 : (w.alloc (.cells (exC x h) 35)).cell? ⟨b, off + 4 + 2, none⟩ = _ := ((((Below.refl _ _).alloc (Nat.le_refl _) _ : Below w.heap.size w (w.alloc (.cells (exC x h) 35))).cell (p := ⟨b, off + 4 + 2, none⟩) lb).trans e12)
  have q12 := cell_regrown m12
  have m13 : (w.alloc (.cells (exC x h) 35)).cell? ⟨b, off + 4 + 3, none⟩ = _ := ((((Below.refl _ _).alloc (Nat.le_refl _) _ : Below w.heap.size w (w.alloc (.cells (exC x h) 35))).cell (p := ⟨b, off + 4 + 3, none⟩) lb).trans e13)
  have q13 := cell_regrown m13
  have J0 := withinR.re IH.out (w := (w.alloc (.cells (exC x h) 35))) (z := rankD x.kind) (h := hd 0) S0 G0.out (K0.out.keep ((Below.refl _ _).alloc (Nat.le_refl _) _) hB) (by simp; omega) C0
  have J1 := withinR.re IH.out (w := (w.alloc (.cells (exC x h) 35))) (z := rankD x.kind + 1) (h := hd 1) S1 G1.out (K1.out.keep ((Below.refl _ _).alloc (Nat.le_refl _) _) hB) (by simp; omega) C1
  have J9 : ∀ d os, Calls Tryz.prog 91 #[.int .i64 x.kind] (grow (redrawn (w.alloc (.cells (exC x h) 35)) d) os) fun e w'' => e = .returned (strV (signT x.kind)) ∧ ∃ p : Regrown, w'' = grow (redrawn (w.alloc (.cells (exC x h) 35)) p.d) p.os := fun d os => Calls.regrown_of (signR x.kind _ HK.out)
  go_enter Tryz.func61, Tryz.ntmps61
  (try simp only [List.append_eq, List.cons_append, List.nil_append])
  go_upto_region 16 with (go_at_call 88; (with_reducible refine (rankR x.kind _).mono ?_); rintro e w' ⟨rfl, rfl⟩)
  refine wp_region_quiet_below (by kernel_rfl) (by kernel_rfl) ?_
  have y0 : ¬ 9223372036854775807 < (parT (decide (rankD (nthE x.args 0).kind < rankD x.kind)) (exT (nthE x.args 0))).length + 1 := by omega
  have y1 : ¬ 9223372036854775807 < (parT (decide (rankD (nthE x.args 0).kind < rankD x.kind)) (exT (nthE x.args 0))).length + 1 + (signT x.kind).length := by omega
  have y2 : ¬ 9223372036854775807 < (parT (decide (rankD (nthE x.args 0).kind < rankD x.kind)) (exT (nthE x.args 0))).length + 1 + (signT x.kind).length + 1 := by omega
  have y3 : ¬ 9223372036854775807 < (parT (decide (rankD (nthE x.args 0).kind < rankD x.kind)) (exT (nthE x.args 0))).length + 1 + (signT x.kind).length + 1 + (parT (decide (rankD (nthE x.args 1).kind < rankD x.kind + 1)) (exT (nthE x.args 1))).length := by omega
  repeat (go_big_quiet_step (first | with_reducible exact J0 _ _ | with_reducible exact J1 _ _ | with_reducible exact J9 _ _))
  refine wpQuiet_nil ?_
  intro _ hw'
  obtain ⟨⟨dq, osq⟩, hw''⟩ := hw'
  subst hw''
  go_wp2
  go_ret
  refine ⟨str_eq ?_, below_step ((Below.refl _ _).alloc (Nat.le_refl _) _) (below_regrown _ dq osq)⟩
  rw [exT_bin HK.out HL.out]
  simp [ByteArray.data_append]
set_option maxRecDepth 100000 in
set_option maxHeartbeats 4000000 in
theorem exprR_4 (N : Nat) (H : ExprAt N) (x : ExD) (hk : x.kind = 4) (h : Hd) (B : Nat) (w : World) (hs : SizeOf.sizeOf x < N + 1) (g : GoodE x) (hx : ExsAt w B h.a x.args) (hB : B ≤ w.heap.size) (hc : cntE x ≤ 4096) :
    Calls Tryz.prog 61 #[exG x h] w fun e w' => e = .returned (strV (exT x)) ∧ Below w.heap.size w w' := by
  have hr := rankD_bd x.kind
  have hn0 := g.n0
  have hn1 := g.n1
  have hnm := g.name
  have IH := Lib.hid H
  have HG := Lib.hid g
  have HX := Lib.hid hx
  have HE := Lib.hid (exT_eq x)
  clear H g hx
  have b1 : (x.kind == 1) = false := by simp only [beq_eq_false_iff_ne]; omega
  have b2 : (x.kind == 2) = false := by simp only [beq_eq_false_iff_ne]; omega
  have b3 : (x.kind == 3) = false := by simp only [beq_eq_false_iff_ne]; omega
  have b4 : (x.kind == 4) = true := by rw [hk]; rfl
  have HK := Lib.hid hk
  clear hk
  have hcx := cntE_eq x
  have hsx := args_size x
  have hbl := joinT_bd 300000 (exTs x.args) (fun t ht => by
    obtain ⟨k, hk, rfl⟩ := List.mem_iff_getElem.1 ht
    rw [exTs_len] at hk
    have h1 := exTs_get (l := x.args) (k := k) hk
    have h2 := good_len (HG.out.kids k hk)
    have h3 := cnt_mem (l := x.args) (k := k) hk
    have h4 : (exTs x.args)[k] = exT (nthE x.args k) := by rw [← h1, List.getD_eq_getElem?_getD, List.getElem?_eq_getElem (by rw [exTs_len]; exact hk)]; rfl
    rw [h4]; omega)
  have hla := len_cntEs x.args
  rw [exTs_len] at hbl
  have W0 : Whl (w.alloc (.cells (exC x h) 35)) w.heap.size 35 (exC x h) := Whl.new _ _ _
  obtain ⟨d0, d1, d2, d3⟩ := W0.c4
  have k2 := cell_regrown d2
  have k3 := cell_regrown d3
  have J0 : ∀ d os, Calls Tryz.prog 89 #[.slice h.a x.args.length h.c] (grow (redrawn (w.alloc (.cells (exC x h) 35)) d) os) fun e w'' => e = .returned (strV (joinT (exTs x.args))) ∧ ∃ p : Regrown, w'' = grow (redrawn (w.alloc (.cells (exC x h) 35)) p.d) p.os :=
    fun d os => Calls.regrown_of (listR N IH.out x.args h.a h.c B _ (by omega) HG.out.kids ((HX.out.keep ((Below.refl _ _).alloc (Nat.le_refl _) _) hB).keep (below_regrown _ d os) (by simp; omega)) (Nat.le_trans (by simp; omega) (below_regrown (w.alloc (.cells (exC x h) 35)) d os).size) (by omega))
  generalize hjj : joinT (exTs x.args) = jt at hbl J0
  have y0 : ¬ 9223372036854775807 < x.name.size + 1 := by omega
  have y1 : ¬ 9223372036854775807 < x.name.size + 1 + jt.length := by omega
  have y2 : ¬ 9223372036854775807 < x.name.size + 1 + jt.length + 1 := by omega
  have HJJ := Lib.hid hjj
  clear hjj hbl hla hsx hcx
  go_enter Tryz.func61, Tryz.ntmps61
  (try simp only [List.append_eq, List.cons_append, List.nil_append])
  go_upto_region 9 with (go_at_call 88; (with_reducible refine (rankR x.kind _).mono ?_); rintro e w' ⟨rfl, rfl⟩)
  refine wp_region_quiet_below (by kernel_rfl) (by kernel_rfl) ?_
  repeat (go_big_quiet_step (with_reducible exact J0 _ _))
  refine wpQuiet_nil ?_
  intro _ hw'
  obtain ⟨⟨dq, osq⟩, hw''⟩ := hw'
  subst hw''
  go_wp2
  go_ret
  refine ⟨str_eq ?_, below_step ((Below.refl _ _).alloc (Nat.le_refl _) _) (below_regrown _ dq osq)⟩
  rw [exT_4 HK.out, HJJ.out]
  simp [ByteArray.data_append, bytesOf']
theorem exprAll (N : Nat) : ExprAt N := by
  induction N with
  | zero => intro x h B w hs; omega
  | succ N ih =>
    intro x h B w hs g hx hB hc
    have hk := (args_of g.form).2
    by_cases hb : 7 ≤ x.kind ∧ x.kind ≤ 19
    · exact exprR_bin N ih x hb h B w hs g hx hB hc
    · rcases (by omega : x.kind = 1 ∨ x.kind = 2 ∨ x.kind = 3 ∨ x.kind = 4 ∨ x.kind = 5 ∨ x.kind = 6 ∨ x.kind = 20) with e | e | e | e | e | e | e
      · exact exprR_1 N ih x e h B w hs g hx hB hc
      · exact exprR_2 N ih x e h B w hs g hx hB hc
      · exact exprR_3 N ih x e h B w hs g hx hB hc
      · exact exprR_4 N ih x e h B w hs g hx hB hc
      · exact exprR_5 N ih x e h B w hs g hx hB hc
      · exact exprR_6 N ih x e h B w hs g hx hB hc
      · exact exprR_20 N ih x e h B w hs g hx hB hc
theorem exprTR (x : ExD) (h : Hd) (B : Nat) (w : World) (g : GoodE x) (hx : ExsAt w B h.a x.args) (hB : B ≤ w.heap.size) (hc : cntE x ≤ 4096) :
    Calls Tryz.prog 61 #[exG x h] w fun e w' => e = .returned (strV (exT x)) ∧ Below w.heap.size w w' := exprAll _ x h B w (Nat.lt_succ_self _) g hx hB hc
end Go.Proofs.YtdddppmfeoebgaaGreatDoor
