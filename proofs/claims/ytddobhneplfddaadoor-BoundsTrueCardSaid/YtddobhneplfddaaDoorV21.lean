/-
  Layer 16 (bounds): AwayB.
-/
import Derived.Test.YtddobhneplfddaaDoorV13
import Derived.Test.YtddobhneplfddaaDoorV19
namespace Go.Proofs.YtddobhneplfddaaDoor
set_option maxRecDepth 100000
open Go.RowKit
set_option linter.unusedSimpArgs false
set_option linter.unusedVariables false
set_option maxHeartbeats 16000000 in
theorem away_a_t (op : Int) (hop : op = 3 ∨ op = 4 ∨ op = 5 ∨ op = 8 ∨ op = 9 ∨ op = 10) (m : ModD) (f : FuncD) (frm ka kb kc : Nat) (to n : Int) (hf : frm < f.code.length) (hx : nthX f.code frm = ⟨op, ((ka : Nat) : Int), ((kb : Nat) : Int), ((kc : Nat) : Int), n⟩) (hl : f.code.length * 40 ≤ 140737488351232) (g nr cp : Nat) (r : List Sp) (hr : r.length = nr) (hcc' : nr ≤ cp) (hcp : cp ≤ maxLen) (sa : Sp) (ha : r[ka]? = some sa) (sb : Sp) (hb : r[kb]? = some sb) (sc : Sp) (hc' : r[kc]? = some sc) (wb : sb.Wf) (wc : sc.Wf) (hd : doOk op sb sc = true) (w : World) (hI : InsAt w w.heap.size f.ca f.code) (hR : RowS w g cp r) :
    Calls Tryd.prog 29 #[m.val, f.val, .int .i64 frm, .int .i64 to, .slice (some ⟨g, 0, none⟩) nr cp] w (AwayOk g cp nr (some (r.set ka (doSp op sb sc))) w) := by
  cases hto : (to == n) <;> rcases hop with h | h | h | h | h | h
  all_goals
    (cases u1 : (op == 1) <;> first | (exfalso; rw [h] at u1; revert u1; decide) | skip)
    (cases u2 : (op == 2) <;> first | (exfalso; rw [h] at u2; revert u2; decide) | skip)
    (cases u3 : (op == 3) <;> first | (exfalso; rw [h] at u3; revert u3; decide) | skip)
    (cases u4 : (op == 4) <;> first | (exfalso; rw [h] at u4; revert u4; decide) | skip)
    (cases u5 : (op == 5) <;> first | (exfalso; rw [h] at u5; revert u5; decide) | skip)
    (cases u8 : (op == 8) <;> first | (exfalso; rw [h] at u8; revert u8; decide) | skip)
    (cases u9 : (op == 9) <;> first | (exfalso; rw [h] at u9; revert u9; decide) | skip)
    (cases u10 : (op == 10) <;> first | (exfalso; rw [h] at u10; revert u10; decide) | skip)
    (cases u6 : (op == 6) <;> first | (exfalso; rw [h] at u6; revert u6; decide) | skip)
    (cases u7 : (op == 7) <;> first | (exfalso; rw [h] at u7; revert u7; decide) | skip)
    clear h
    obtain ⟨cb, co, hca, hcb, hcc⟩ := hI (by omega)
    have x0 := hcc frm hf 0 (by omega)
    have x1 := hcc frm hf 1 (by omega)
    have x2 := hcc frm hf 2 (by omega)
    have x3 := hcc frm hf 3 (by omega)
    have x4 := hcc frm hf 4 (by omega)
    simp only [hx, insV, Nat.add_zero] at x0 x1 x2 x3 x4
    obtain ⟨nm, pa, pc, ps, rg, wd, ca, cc, cd⟩ := f
    simp only at hca hf hl hx ⊢
    subst hca
    obtain ⟨hka, ya0, ya1, fa0, fa1⟩ := hR.cells4 ha
    have hna : ((ka : Nat) : Int) < (nr : Int) := by omega
    obtain ⟨hkb, yb0, yb1, fb0, fb1⟩ := hR.cells4 hb
    have hnb : ((kb : Nat) : Int) < (nr : Int) := by omega
    obtain ⟨hkc, yc0, yc1, fc0, fc1⟩ := hR.cells4 hc'
    have hnc : ((kc : Nat) : Int) < (nr : Int) := by omega
    have lg := hR.lt
    have hfr : ((frm : Nat) : Int) < (cd.length : Int) := by omega
    unfold maxLen at hcp
    have HR := Lib.hid hR
    clear hcc hx hR
    go_enter Tryd.func29, Tryd.ntmps29
    go_wp2
    generalize hW : ((((w.alloc (.cells #[.slice m.ta m.ths.length m.tc, .slice m.fa m.funcs.length m.fc] 25)).alloc (.cells #[.string nm, .slice pa ps.length pc, .int .i64 rg, .int .i64 wd, .slice (some ⟨cb, co, none⟩) cd.length cc] 48)).alloc (.cells #[.slice (some ⟨g, 0, none⟩) nr cp] 26)).alloc (.cells #[.int .i64 op, .int .i64 ((ka : Nat) : Int), .int .i64 ((kb : Nat) : Int), .int .i64 ((kc : Nat) : Int), .int .i64 n] 65)) = W
    have aw : AwW w W g nr cp r ⟨op, ka, kb, kc, n⟩ wd (.slice m.fa m.funcs.length m.fc) := by
      rw [← hW]; exact AwW.new (x := ⟨op, ka, kb, kc, n⟩) HR.out _ _ _ _ _ _ _ _ _
    clear hW x0 x1 x2 x3 x4
    have HS : ∀ w', AwW w w' g nr cp r ⟨op, ka, kb, kc, n⟩ wd (.slice m.fa m.funcs.length m.fc) → (w'.cell? ⟨w.heap.size + 1 + 1 + 1, 0, none⟩ = some (.int .i64 op) ∧ w'.cell? ⟨w.heap.size + 1 + 1, 0, none⟩ = some (.slice (some ⟨g, 0, none⟩) nr cp) ∧ w'.cell? ⟨w.heap.size + 1 + 1 + 1, 2, none⟩ = some (.int .i64 kb) ∧ w'.cell? ⟨w.heap.size + 1 + 1 + 1, 3, none⟩ = some (.int .i64 kc) ∧ w'.cell? ⟨g, kb * 2, none⟩ = some (.int .i64 sb.lo) ∧ w'.cell? ⟨g, kb * 2 + 1, none⟩ = some (.int .i64 sb.hi) ∧ w'.cell? ⟨g, kc * 2, none⟩ = some (.int .i64 sc.lo) ∧ w'.cell? ⟨g, kc * 2 + 1, none⟩ = some (.int .i64 sc.hi)) ∧ AwW w w' g nr cp r ⟨op, ka, kb, kc, n⟩ wd (.slice m.fa m.funcs.length m.fc) := fun w' h => by
      obtain ⟨_, b0, b1, _, _⟩ := h.row.cells4 hb
      obtain ⟨_, c0, c1, _, _⟩ := h.row.cells4 hc'
      exact ⟨⟨h.x0, h.rb, h.x2, h.x3, b0, b1, c0, c1⟩, h⟩
    have hsz := aw.size
    go_region_held3 (fun w' => (w'.cell? ⟨w.heap.size + 1 + 1 + 1, 0, none⟩ = some (.int .i64 op) ∧ w'.cell? ⟨w.heap.size + 1 + 1, 0, none⟩ = some (.slice (some ⟨g, 0, none⟩) nr cp) ∧ w'.cell? ⟨w.heap.size + 1 + 1 + 1, 2, none⟩ = some (.int .i64 kb) ∧ w'.cell? ⟨w.heap.size + 1 + 1 + 1, 3, none⟩ = some (.int .i64 kc) ∧ w'.cell? ⟨g, kb * 2, none⟩ = some (.int .i64 sb.lo) ∧ w'.cell? ⟨g, kb * 2 + 1, none⟩ = some (.int .i64 sb.hi) ∧ w'.cell? ⟨g, kc * 2, none⟩ = some (.int .i64 sc.lo) ∧ w'.cell? ⟨g, kc * 2 + 1, none⟩ = some (.int .i64 sc.hi)) ∧ AwW w w' g nr cp r ⟨op, ka, kb, kc, n⟩ wd (.slice m.fa m.funcs.length m.fc)) (first | exact HS _ aw.drew | (refine HS _ ?_; first | exact AwW.below aw.drew hb1 | exact AwW.below (aw.alloc _).drew hb1 | exact AwW.alloc (AwW.below aw.drew hb1) _ | (with_reducible exact (aw.alloc _).drew) | (with_reducible exact (aw.drew).alloc _) | (refine AwW.far (AwW.far (AwW.below (aw.alloc _).drew hb1) ?_ _) ?_ _ <;> first | omega | (simp; done) | (simp; omega)))) (first | (go_at_call 55; refine (doP op sb sc wb wc _).mono ?_; rintro e w1 ⟨rfl, hb1⟩; have hs1 := hb1.size; (try (have nw : Whl w1 W.heap.size 34 #[.int .i64 0, .int .i64 0] := Whl.below' (show Whl (W.alloc (.cells #[.int .i64 0, .int .i64 0] 34)).drew W.heap.size 34 #[.int .i64 0, .int .i64 0] from Whl.new W _ _) hb1; have n0 := nw.cell 0; have n1 := nw.cell 1; have m0 := nw.frozen 0; have m1 := nw.frozen 1))))
    all_goals
      rename_i hS2
      have aw2 := hS2.2
      clear hS2
      first
      | (have hg2 : g ≠ W.heap.size := by have := aw.lg; omega
         have q2 := (nw.put 0 (.int .i64 (doSp op sb sc).lo)).put 1 (.int .i64 (doSp op sb sc).hi)
         simp at q2
         generalize ((w1.setCell ⟨W.heap.size, 0, none⟩ (.int .i64 (doSp op sb sc).lo)).setCell ⟨W.heap.size, 1, none⟩ (.int .i64 (doSp op sb sc).hi)) = W2 at aw2 q2 ⊢
         generalize W.heap.size = nb at q2 hg2 ⊢)
      | (have hg2 : g ≠ w1.heap.size := by have := aw.lg; have hh := hb1.size; simp at hh; omega
         have q2 := Whl.new w1 34 #[.int .i64 (doSp op sb sc).lo, .int .i64 (doSp op sb sc).hi]
         generalize (w1.alloc (.cells #[.int .i64 (doSp op sb sc).lo, .int .i64 (doSp op sb sc).hi] 34)) = W2 at aw2 q2 ⊢
         generalize w1.heap.size = nb at q2 hg2 ⊢)
      have e0 := aw2.x0
      have e1 := aw2.x1
      have eb := aw2.rb
      obtain ⟨_, g0, g1, h0, h1⟩ := aw2.row.cells4 ha
      have p0 := q2.cell 0
      have p1 := q2.cell 1
      simp at e0 e1 p0 p1
      go_wp2
      refine ret_of ?_ rfl
      have fin := aw2.put hka (doSp op sb sc)
      refine ⟨_, by simp [results, Tryd.results29, go_sem] <;> rfl, rfl, ⟨_, fin.row, by simp [hr], fun _ h => Option.some.inj h⟩, fin.gr⟩
end Go.Proofs.YtddobhneplfddaaDoor
