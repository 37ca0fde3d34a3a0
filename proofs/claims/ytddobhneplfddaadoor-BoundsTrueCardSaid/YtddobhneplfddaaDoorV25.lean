/-
  Layer 16 (bounds): AwayM.
-/
import Derived.Test.YtddobhneplfddaaDoorV13
import Derived.Deep.CutBlock
import Derived.Deep.DeepCutAuto
namespace Go.Proofs.YtddobhneplfddaaDoor
set_option maxRecDepth 100000
open Go.RowKit
set_option linter.unusedSimpArgs false
set_option linter.unusedVariables false
theorem whlNew1 (W : World) (o : Obj) (t : TypeId) (cs : Array Value) : Whl ((W.alloc o).alloc (.cells cs t)) (W.heap.size + 1) t cs := by
  have h := Whl.new (W.alloc o) t cs
  simpa using h
/-- What stands behind the loads of a count. -/
def Cut17 (w : World) (g nr cp : Nat) (r : List Sp) (x : InsD) (wd : Int) (fv : Value) (sa sb : Sp) (s21 s22 : Value) (V : World) : Prop :=
  ∃ p q : Nat, s21 = .pointer (some ⟨p, 0, none⟩) ∧ s22 = .pointer (some ⟨q, 0, none⟩) ∧ AwW w V g nr cp r x wd fv ∧ Whl V p 34 #[.int .i64 sa.lo, .int .i64 sa.hi] ∧ Whl V q 34 #[.int .i64 sb.lo, .int .i64 sb.hi] ∧ w.heap.size + 1 + 1 + 1 + 1 ≤ p ∧ w.heap.size + 1 + 1 + 1 + 1 ≤ q
theorem AwW.putLo {w W : World} {g nr cp : Nat} {r : List Sp} {x : InsD} {wd : Int} {fv : Value} (h : AwW w W g nr cp r x wd fv) {k : Nat} {s : Sp} (hs : r[k]? = some s) (y : Int) : AwW w (W.setCell ⟨g, k * 2, none⟩ (.int .i64 y)) g nr cp (r.set k ⟨y, s.hi⟩) x wd fv := by
  obtain ⟨hk, rfl⟩ := List.getElem?_eq_some_iff.1 hs
  have lg := h.lg
  have c : ∀ (b o : Nat), b ≠ g → (W.setCell ⟨g, k * 2, none⟩ (.int .i64 y)).cell? ⟨b, o, none⟩ = W.cell? ⟨b, o, none⟩ := fun b o hb => by
    rw [World.cell?, World.cell?, Below.heap_setCell _ _ _ b hb]
  exact ⟨by have := h.size; simpa using this, by rw [c _ _ (by omega)]; exact h.x0, by rw [c _ _ (by omega)]; exact h.x1, by rw [c _ _ (by omega)]; exact h.x2, by rw [c _ _ (by omega)]; exact h.x3, by rw [c _ _ (by omega)]; exact h.x4, by rw [c _ _ (by omega)]; exact h.rb, by rw [c _ _ (by omega)]; exact h.wd, by rw [c _ _ (by omega)]; exact h.fs, lg, h.row.setLo hk y, gwPutG h.gr _ _⟩
set_option maxHeartbeats 4000000 in
theorem away_17_one_tt (m : ModD) (f : FuncD) (frm ka kb : Nat) (too c n : Int) (hf : frm < f.code.length) (hx : nthX f.code frm = ⟨17, ((ka : Nat) : Int), ((kb : Nat) : Int), c, n⟩) (hl : f.code.length * 40 ≤ 140737488351232) (g nr cp : Nat) (r : List Sp) (hr : r.length = nr) (hc : nr ≤ cp) (hcp : cp ≤ maxLen) (sa : Sp) (ha : r[ka]? = some sa) (sb : Sp) (hb : r[kb]? = some sb) (hone : (n == (frm : Int) + 1) = true) (hone' : (n != (frm : Int) + 1) = false) (hab : ((ka : Int) == (kb : Int)) = true) (hto : (too == n) = true) (w : World) (hI : InsAt w w.heap.size f.ca f.code) (hR : RowS w g cp r) :
    Calls Tryd.prog 29 #[m.val, f.val, .int .i64 frm, .int .i64 too, .slice (some ⟨g, 0, none⟩) nr cp] w (AwayOk g cp nr (some r) w) := by
  obtain ⟨cb, co, hca, hcb, hcc⟩ := hI (by omega)
  have x0 := hcc frm hf 0 (by omega)
  have x1 := hcc frm hf 1 (by omega)
  have x2 := hcc frm hf 2 (by omega)
  have x3 := hcc frm hf 3 (by omega)
  have x4 := hcc frm hf 4 (by omega)
  simp only [hx, insV, Nat.add_zero] at x0 x1 x2 x3 x4
  obtain ⟨nm, pa, pc, ps, rg, wd, ca, cc, cd⟩ := f
  simp only at hca hf hl hx ⊢
  subst hca
  obtain ⟨hka, ya0, ya1, fa0, fa1⟩ := hR.cells4 ha
  have hna : ((ka : Nat) : Int) < (nr : Int) := by omega
  obtain ⟨hkb, yb0, yb1, fb0, fb1⟩ := hR.cells4 hb
  have hnb : ((kb : Nat) : Int) < (nr : Int) := by omega
  have lg := hR.lt
  have hfr : ((frm : Nat) : Int) < (cd.length : Int) := by omega
  unfold maxLen at hcp
  have HR := Lib.hid hR
  clear hcc hx hR
  go_enter Tryd.func29, Tryd.ntmps29
  go_upto_region 51 with fail
  generalize hW : ((((w.alloc (.cells #[.slice m.ta m.ths.length m.tc, .slice m.fa m.funcs.length m.fc] 25)).alloc (.cells #[.string nm, .slice pa ps.length pc, .int .i64 rg, .int .i64 wd, .slice (some ⟨cb, co, none⟩) cd.length cc] 48)).alloc (.cells #[.slice (some ⟨g, 0, none⟩) nr cp] 26)).alloc (.cells #[.int .i64 17, .int .i64 ((ka : Nat) : Int), .int .i64 ((kb : Nat) : Int), .int .i64 c, .int .i64 n] 65)) = W
  have aw : AwW w W g nr cp r ⟨17, ka, kb, c, n⟩ wd (.slice m.fa m.funcs.length m.fc) := by
    rw [← hW]; exact AwW.new (x := ⟨17, ka, kb, c, n⟩) HR.out _ _ _ _ _ _ _ _ _
  clear hW x0 x1 x2 x3 x4
  have hsz := aw.size
  have HS : ∀ w', AwW w w' g nr cp r ⟨17, ka, kb, c, n⟩ wd (.slice m.fa m.funcs.length m.fc) → (w'.cell? ⟨w.heap.size + 1 + 1 + 1, 1, none⟩ = some (.int .i64 ka) ∧ w'.cell? ⟨w.heap.size + 1 + 1 + 1, 2, none⟩ = some (.int .i64 kb) ∧ w'.cell? ⟨w.heap.size + 1 + 1, 0, none⟩ = some (.slice (some ⟨g, 0, none⟩) nr cp) ∧ w'.cell? ⟨g, ka * 2, none⟩ = some (.int .i64 sa.lo) ∧ w'.cell? ⟨g, ka * 2 + 1, none⟩ = some (.int .i64 sa.hi) ∧ w'.cell? ⟨g, kb * 2, none⟩ = some (.int .i64 sb.lo) ∧ w'.cell? ⟨g, kb * 2 + 1, none⟩ = some (.int .i64 sb.hi)) ∧ AwW w w' g nr cp r ⟨17, ka, kb, c, n⟩ wd (.slice m.fa m.funcs.length m.fc) := fun w' h => by
    obtain ⟨_, a0, a1, _, _⟩ := h.row.cells4 ha
    obtain ⟨_, b0, b1, _, _⟩ := h.row.cells4 hb
    exact ⟨⟨h.x1, h.x2, h.rb, a0, a1, b0, b1⟩, h⟩
  go_cut [21, 22] (fun s21 s22 V => Cut17 w g nr cp r ⟨17, ka, kb, c, n⟩ wd (.slice m.fa m.funcs.length m.fc) sa sb s21 s22 V)
  case first =>
    go_region_held3 (fun w' => (w'.cell? ⟨w.heap.size + 1 + 1 + 1, 1, none⟩ = some (.int .i64 ka) ∧ w'.cell? ⟨w.heap.size + 1 + 1 + 1, 2, none⟩ = some (.int .i64 kb) ∧ w'.cell? ⟨w.heap.size + 1 + 1, 0, none⟩ = some (.slice (some ⟨g, 0, none⟩) nr cp) ∧ w'.cell? ⟨g, ka * 2, none⟩ = some (.int .i64 sa.lo) ∧ w'.cell? ⟨g, ka * 2 + 1, none⟩ = some (.int .i64 sa.hi) ∧ w'.cell? ⟨g, kb * 2, none⟩ = some (.int .i64 sb.lo) ∧ w'.cell? ⟨g, kb * 2 + 1, none⟩ = some (.int .i64 sb.hi)) ∧ AwW w w' g nr cp r ⟨17, ka, kb, c, n⟩ wd (.slice m.fa m.funcs.length m.fc)) (first | exact HS _ aw.drew | (refine HS _ ?_; repeat (first | exact aw | with_reducible refine AwW.drew ?_ | with_reducible refine AwW.alloc ?_ _ | (with_reducible refine AwW.far ?_ ?_ _; rotate_left; (· first | (simp; done) | (simp; omega)))))) (fail)
    all_goals
      rename_i hS2
      have aw2 := hS2.2
      clear hS2
      go_wp2_with fail
      go_meet
      unfold Cut17
      refine ⟨_, _, rfl, rfl, aw2, ?_, ?_, ?_, ?_⟩
      any_goals (first | omega | (simp; done) | (simp; omega))
      all_goals repeat (first | with_reducible exact Whl.new _ _ _ | with_reducible exact whlNew1 _ _ _ _ | with_reducible refine Whl.drew ?_ | with_reducible refine Whl.alloc ?_ _)
  case rest =>
    rename_i hcut
    obtain ⟨p, q, rfl, rfl, aw3, hp, hq, lp, lq⟩ := hcut
    clear aw HS hsz
    have c1 := aw3.x1
    have c2 := aw3.x2
    have c4 := aw3.x4
    have cb := aw3.rb
    have a0 := hp.cell 0
    have a1 := hp.cell 1
    have b0 := hq.cell 0
    have b1 := hq.cell 1
    simp at c1 c2 c4 a0 a1 b0 b1
    go_wp2
    refine ret_of ?_ rfl
    refine ⟨_, by simp [results, Tryd.results29, go_sem] <;> rfl, rfl, ⟨_, aw3.row, by simp [hr], fun _ h => Option.some.inj h⟩, aw3.gr⟩
set_option maxHeartbeats 4000000 in
theorem away_17_one_tf (m : ModD) (f : FuncD) (frm ka kb : Nat) (too c n : Int) (hf : frm < f.code.length) (hx : nthX f.code frm = ⟨17, ((ka : Nat) : Int), ((kb : Nat) : Int), c, n⟩) (hl : f.code.length * 40 ≤ 140737488351232) (g nr cp : Nat) (r : List Sp) (hr : r.length = nr) (hc : nr ≤ cp) (hcp : cp ≤ maxLen) (sa : Sp) (ha : r[ka]? = some sa) (sb : Sp) (hb : r[kb]? = some sb) (hone : (n == (frm : Int) + 1) = true) (hone' : (n != (frm : Int) + 1) = false) (hab : ((ka : Int) == (kb : Int)) = false) (hto : (too == n) = true) (w : World) (hI : InsAt w w.heap.size f.ca f.code) (hR : RowS w g cp r) :
    Calls Tryd.prog 29 #[m.val, f.val, .int .i64 frm, .int .i64 too, .slice (some ⟨g, 0, none⟩) nr cp] w (AwayOk g cp nr (some r) w) := by
  obtain ⟨cb, co, hca, hcb, hcc⟩ := hI (by omega)
  have x0 := hcc frm hf 0 (by omega)
  have x1 := hcc frm hf 1 (by omega)
  have x2 := hcc frm hf 2 (by omega)
  have x3 := hcc frm hf 3 (by omega)
  have x4 := hcc frm hf 4 (by omega)
  simp only [hx, insV, Nat.add_zero] at x0 x1 x2 x3 x4
  obtain ⟨nm, pa, pc, ps, rg, wd, ca, cc, cd⟩ := f
  simp only at hca hf hl hx ⊢
  subst hca
  obtain ⟨hka, ya0, ya1, fa0, fa1⟩ := hR.cells4 ha
  have hna : ((ka : Nat) : Int) < (nr : Int) := by omega
  obtain ⟨hkb, yb0, yb1, fb0, fb1⟩ := hR.cells4 hb
  have hnb : ((kb : Nat) : Int) < (nr : Int) := by omega
  have lg := hR.lt
  have hfr : ((frm : Nat) : Int) < (cd.length : Int) := by omega
  unfold maxLen at hcp
  have HR := Lib.hid hR
  clear hcc hx hR
  go_enter Tryd.func29, Tryd.ntmps29
  go_upto_region 51 with fail
  generalize hW : ((((w.alloc (.cells #[.slice m.ta m.ths.length m.tc, .slice m.fa m.funcs.length m.fc] 25)).alloc (.cells #[.string nm, .slice pa ps.length pc, .int .i64 rg, .int .i64 wd, .slice (some ⟨cb, co, none⟩) cd.length cc] 48)).alloc (.cells #[.slice (some ⟨g, 0, none⟩) nr cp] 26)).alloc (.cells #[.int .i64 17, .int .i64 ((ka : Nat) : Int), .int .i64 ((kb : Nat) : Int), .int .i64 c, .int .i64 n] 65)) = W
  have aw : AwW w W g nr cp r ⟨17, ka, kb, c, n⟩ wd (.slice m.fa m.funcs.length m.fc) := by
    rw [← hW]; exact AwW.new (x := ⟨17, ka, kb, c, n⟩) HR.out _ _ _ _ _ _ _ _ _
  clear hW x0 x1 x2 x3 x4
  have hsz := aw.size
  have HS : ∀ w', AwW w w' g nr cp r ⟨17, ka, kb, c, n⟩ wd (.slice m.fa m.funcs.length m.fc) → (w'.cell? ⟨w.heap.size + 1 + 1 + 1, 1, none⟩ = some (.int .i64 ka) ∧ w'.cell? ⟨w.heap.size + 1 + 1 + 1, 2, none⟩ = some (.int .i64 kb) ∧ w'.cell? ⟨w.heap.size + 1 + 1, 0, none⟩ = some (.slice (some ⟨g, 0, none⟩) nr cp) ∧ w'.cell? ⟨g, ka * 2, none⟩ = some (.int .i64 sa.lo) ∧ w'.cell? ⟨g, ka * 2 + 1, none⟩ = some (.int .i64 sa.hi) ∧ w'.cell? ⟨g, kb * 2, none⟩ = some (.int .i64 sb.lo) ∧ w'.cell? ⟨g, kb * 2 + 1, none⟩ = some (.int .i64 sb.hi)) ∧ AwW w w' g nr cp r ⟨17, ka, kb, c, n⟩ wd (.slice m.fa m.funcs.length m.fc) := fun w' h => by
    obtain ⟨_, a0, a1, _, _⟩ := h.row.cells4 ha
    obtain ⟨_, b0, b1, _, _⟩ := h.row.cells4 hb
    exact ⟨⟨h.x1, h.x2, h.rb, a0, a1, b0, b1⟩, h⟩
  go_cut [21, 22] (fun s21 s22 V => Cut17 w g nr cp r ⟨17, ka, kb, c, n⟩ wd (.slice m.fa m.funcs.length m.fc) sa sb s21 s22 V)
  case first =>
    go_region_held3 (fun w' => (w'.cell? ⟨w.heap.size + 1 + 1 + 1, 1, none⟩ = some (.int .i64 ka) ∧ w'.cell? ⟨w.heap.size + 1 + 1 + 1, 2, none⟩ = some (.int .i64 kb) ∧ w'.cell? ⟨w.heap.size + 1 + 1, 0, none⟩ = some (.slice (some ⟨g, 0, none⟩) nr cp) ∧ w'.cell? ⟨g, ka * 2, none⟩ = some (.int .i64 sa.lo) ∧ w'.cell? ⟨g, ka * 2 + 1, none⟩ = some (.int .i64 sa.hi) ∧ w'.cell? ⟨g, kb * 2, none⟩ = some (.int .i64 sb.lo) ∧ w'.cell? ⟨g, kb * 2 + 1, none⟩ = some (.int .i64 sb.hi)) ∧ AwW w w' g nr cp r ⟨17, ka, kb, c, n⟩ wd (.slice m.fa m.funcs.length m.fc)) (first | exact HS _ aw.drew | (refine HS _ ?_; repeat (first | exact aw | with_reducible refine AwW.drew ?_ | with_reducible refine AwW.alloc ?_ _ | (with_reducible refine AwW.far ?_ ?_ _; rotate_left; (· first | (simp; done) | (simp; omega)))))) (fail)
    all_goals
      rename_i hS2
      have aw2 := hS2.2
      clear hS2
      go_wp2_with fail
      go_meet
      unfold Cut17
      refine ⟨_, _, rfl, rfl, aw2, ?_, ?_, ?_, ?_⟩
      any_goals (first | omega | (simp; done) | (simp; omega))
      all_goals repeat (first | with_reducible exact Whl.new _ _ _ | with_reducible exact whlNew1 _ _ _ _ | with_reducible refine Whl.drew ?_ | with_reducible refine Whl.alloc ?_ _)
  case rest =>
    rename_i hcut
    obtain ⟨p, q, rfl, rfl, aw3, hp, hq, lp, lq⟩ := hcut
    clear aw HS hsz
    have c1 := aw3.x1
    have c2 := aw3.x2
    have c4 := aw3.x4
    have cb := aw3.rb
    have a0 := hp.cell 0
    have a1 := hp.cell 1
    have b0 := hq.cell 0
    have b1 := hq.cell 1
    simp at c1 c2 c4 a0 a1 b0 b1
    go_wp2
    refine ret_of ?_ rfl
    refine ⟨_, by simp [results, Tryd.results29, go_sem] <;> rfl, rfl, ⟨_, aw3.row, by simp [hr], fun _ h => Option.some.inj h⟩, aw3.gr⟩
set_option maxHeartbeats 4000000 in
theorem away_17_one_ft (m : ModD) (f : FuncD) (frm ka kb : Nat) (too c n : Int) (hf : frm < f.code.length) (hx : nthX f.code frm = ⟨17, ((ka : Nat) : Int), ((kb : Nat) : Int), c, n⟩) (hl : f.code.length * 40 ≤ 140737488351232) (g nr cp : Nat) (r : List Sp) (hr : r.length = nr) (hc : nr ≤ cp) (hcp : cp ≤ maxLen) (sa : Sp) (ha : r[ka]? = some sa) (sb : Sp) (hb : r[kb]? = some sb) (hone : (n == (frm : Int) + 1) = true) (hone' : (n != (frm : Int) + 1) = false) (hab : ((ka : Int) == (kb : Int)) = true) (hto : (too == n) = false) (w : World) (hI : InsAt w w.heap.size f.ca f.code) (hR : RowS w g cp r) :
    Calls Tryd.prog 29 #[m.val, f.val, .int .i64 frm, .int .i64 too, .slice (some ⟨g, 0, none⟩) nr cp] w (AwayOk g cp nr (some r) w) := by
  obtain ⟨cb, co, hca, hcb, hcc⟩ := hI (by omega)
  have x0 := hcc frm hf 0 (by omega)
  have x1 := hcc frm hf 1 (by omega)
  have x2 := hcc frm hf 2 (by omega)
  have x3 := hcc frm hf 3 (by omega)
  have x4 := hcc frm hf 4 (by omega)
  simp only [hx, insV, Nat.add_zero] at x0 x1 x2 x3 x4
  obtain ⟨nm, pa, pc, ps, rg, wd, ca, cc, cd⟩ := f
  simp only at hca hf hl hx ⊢
  subst hca
  obtain ⟨hka, ya0, ya1, fa0, fa1⟩ := hR.cells4 ha
  have hna : ((ka : Nat) : Int) < (nr : Int) := by omega
  obtain ⟨hkb, yb0, yb1, fb0, fb1⟩ := hR.cells4 hb
  have hnb : ((kb : Nat) : Int) < (nr : Int) := by omega
  have lg := hR.lt
  have hfr : ((frm : Nat) : Int) < (cd.length : Int) := by omega
  unfold maxLen at hcp
  have HR := Lib.hid hR
  clear hcc hx hR
  go_enter Tryd.func29, Tryd.ntmps29
  go_upto_region 51 with fail
  generalize hW : ((((w.alloc (.cells #[.slice m.ta m.ths.length m.tc, .slice m.fa m.funcs.length m.fc] 25)).alloc (.cells #[.string nm, .slice pa ps.length pc, .int .i64 rg, .int .i64 wd, .slice (some ⟨cb, co, none⟩) cd.length cc] 48)).alloc (.cells #[.slice (some ⟨g, 0, none⟩) nr cp] 26)).alloc (.cells #[.int .i64 17, .int .i64 ((ka : Nat) : Int), .int .i64 ((kb : Nat) : Int), .int .i64 c, .int .i64 n] 65)) = W
  have aw : AwW w W g nr cp r ⟨17, ka, kb, c, n⟩ wd (.slice m.fa m.funcs.length m.fc) := by
    rw [← hW]; exact AwW.new (x := ⟨17, ka, kb, c, n⟩) HR.out _ _ _ _ _ _ _ _ _
  clear hW x0 x1 x2 x3 x4
  have hsz := aw.size
  have HS : ∀ w', AwW w w' g nr cp r ⟨17, ka, kb, c, n⟩ wd (.slice m.fa m.funcs.length m.fc) → (w'.cell? ⟨w.heap.size + 1 + 1 + 1, 1, none⟩ = some (.int .i64 ka) ∧ w'.cell? ⟨w.heap.size + 1 + 1 + 1, 2, none⟩ = some (.int .i64 kb) ∧ w'.cell? ⟨w.heap.size + 1 + 1, 0, none⟩ = some (.slice (some ⟨g, 0, none⟩) nr cp) ∧ w'.cell? ⟨g, ka * 2, none⟩ = some (.int .i64 sa.lo) ∧ w'.cell? ⟨g, ka * 2 + 1, none⟩ = some (.int .i64 sa.hi) ∧ w'.cell? ⟨g, kb * 2, none⟩ = some (.int .i64 sb.lo) ∧ w'.cell? ⟨g, kb * 2 + 1, none⟩ = some (.int .i64 sb.hi)) ∧ AwW w w' g nr cp r ⟨17, ka, kb, c, n⟩ wd (.slice m.fa m.funcs.length m.fc) := fun w' h => by
    obtain ⟨_, a0, a1, _, _⟩ := h.row.cells4 ha
    obtain ⟨_, b0, b1, _, _⟩ := h.row.cells4 hb
    exact ⟨⟨h.x1, h.x2, h.rb, a0, a1, b0, b1⟩, h⟩
  go_cut [21, 22] (fun s21 s22 V => Cut17 w g nr cp r ⟨17, ka, kb, c, n⟩ wd (.slice m.fa m.funcs.length m.fc) sa sb s21 s22 V)
  case first =>
    go_region_held3 (fun w' => (w'.cell? ⟨w.heap.size + 1 + 1 + 1, 1, none⟩ = some (.int .i64 ka) ∧ w'.cell? ⟨w.heap.size + 1 + 1 + 1, 2, none⟩ = some (.int .i64 kb) ∧ w'.cell? ⟨w.heap.size + 1 + 1, 0, none⟩ = some (.slice (some ⟨g, 0, none⟩) nr cp) ∧ w'.cell? ⟨g, ka * 2, none⟩ = some (.int .i64 sa.lo) ∧ w'.cell? ⟨g, ka * 2 + 1, none⟩ = some (.int .i64 sa.hi) ∧ w'.cell? ⟨g, kb * 2, none⟩ = some (.int .i64 sb.lo) ∧ w'.cell? ⟨g, kb * 2 + 1, none⟩ = some (.int .i64 sb.hi)) ∧ AwW w w' g nr cp r ⟨17, ka, kb, c, n⟩ wd (.slice m.fa m.funcs.length m.fc)) (first | exact HS _ aw.drew | (refine HS _ ?_; repeat (first | exact aw | with_reducible refine AwW.drew ?_ | with_reducible refine AwW.alloc ?_ _ | (with_reducible refine AwW.far ?_ ?_ _; rotate_left; (· first | (simp; done) | (simp; omega)))))) (fail)
    all_goals
      rename_i hS2
      have aw2 := hS2.2
      clear hS2
      go_wp2_with fail
      go_meet
      unfold Cut17
      refine ⟨_, _, rfl, rfl, aw2, ?_, ?_, ?_, ?_⟩
      any_goals (first | omega | (simp; done) | (simp; omega))
      all_goals repeat (first | with_reducible exact Whl.new _ _ _ | with_reducible exact whlNew1 _ _ _ _ | with_reducible refine Whl.drew ?_ | with_reducible refine Whl.alloc ?_ _)
  case rest =>
    rename_i hcut
    obtain ⟨p, q, rfl, rfl, aw3, hp, hq, lp, lq⟩ := hcut
    clear aw HS hsz
    have c1 := aw3.x1
    have c2 := aw3.x2
    have c4 := aw3.x4
    have cb := aw3.rb
    have a0 := hp.cell 0
    have a1 := hp.cell 1
    have b0 := hq.cell 0
    have b1 := hq.cell 1
    simp at c1 c2 c4 a0 a1 b0 b1
    go_wp2
    refine ret_of ?_ rfl
    refine ⟨_, by simp [results, Tryd.results29, go_sem] <;> rfl, rfl, ⟨_, aw3.row, by simp [hr], fun _ h => Option.some.inj h⟩, aw3.gr⟩
set_option maxHeartbeats 4000000 in
theorem away_17_one_ff (m : ModD) (f : FuncD) (frm ka kb : Nat) (too c n : Int) (hf : frm < f.code.length) (hx : nthX f.code frm = ⟨17, ((ka : Nat) : Int), ((kb : Nat) : Int), c, n⟩) (hl : f.code.length * 40 ≤ 140737488351232) (g nr cp : Nat) (r : List Sp) (hr : r.length = nr) (hc : nr ≤ cp) (hcp : cp ≤ maxLen) (sa : Sp) (ha : r[ka]? = some sa) (sb : Sp) (hb : r[kb]? = some sb) (hone : (n == (frm : Int) + 1) = true) (hone' : (n != (frm : Int) + 1) = false) (hab : ((ka : Int) == (kb : Int)) = false) (hto : (too == n) = false) (w : World) (hI : InsAt w w.heap.size f.ca f.code) (hR : RowS w g cp r) :
    Calls Tryd.prog 29 #[m.val, f.val, .int .i64 frm, .int .i64 too, .slice (some ⟨g, 0, none⟩) nr cp] w (AwayOk g cp nr (some r) w) := by
  obtain ⟨cb, co, hca, hcb, hcc⟩ := hI (by omega)
  have x0 := hcc frm hf 0 (by omega)
  have x1 := hcc frm hf 1 (by omega)
  have x2 := hcc frm hf 2 (by omega)
  have x3 := hcc frm hf 3 (by omega)
  have x4 := hcc frm hf 4 (by omega)
  simp only [hx, insV, Nat.add_zero] at x0 x1 x2 x3 x4
  obtain ⟨nm, pa, pc, ps, rg, wd, ca, cc, cd⟩ := f
  simp only at hca hf hl hx ⊢
  subst hca
  obtain ⟨hka, ya0, ya1, fa0, fa1⟩ := hR.cells4 ha
  have hna : ((ka : Nat) : Int) < (nr : Int) := by omega
  obtain ⟨hkb, yb0, yb1, fb0, fb1⟩ := hR.cells4 hb
  have hnb : ((kb : Nat) : Int) < (nr : Int) := by omega
  have lg := hR.lt
  have hfr : ((frm : Nat) : Int) < (cd.length : Int) := by omega
  unfold maxLen at hcp
  have HR := Lib.hid hR
  clear hcc hx hR
  go_enter Tryd.func29, Tryd.ntmps29
  go_upto_region 51 with fail
  generalize hW : ((((w.alloc (.cells #[.slice m.ta m.ths.length m.tc, .slice m.fa m.funcs.length m.fc] 25)).alloc (.cells #[.string nm, .slice pa ps.length pc, .int .i64 rg, .int .i64 wd, .slice (some ⟨cb, co, none⟩) cd.length cc] 48)).alloc (.cells #[.slice (some ⟨g, 0, none⟩) nr cp] 26)).alloc (.cells #[.int .i64 17, .int .i64 ((ka : Nat) : Int), .int .i64 ((kb : Nat) : Int), .int .i64 c, .int .i64 n] 65)) = W
  have aw : AwW w W g nr cp r ⟨17, ka, kb, c, n⟩ wd (.slice m.fa m.funcs.length m.fc) := by
    rw [← hW]; exact AwW.new (x := ⟨17, ka, kb, c, n⟩) HR.out _ _ _ _ _ _ _ _ _
  clear hW x0 x1 x2 x3 x4
  have hsz := aw.size
  have HS : ∀ w', AwW w w' g nr cp r ⟨17, ka, kb, c, n⟩ wd (.slice m.fa m.funcs.length m.fc) → (w'.cell? ⟨w.heap.size + 1 + 1 + 1, 1, none⟩ = some (.int .i64 ka) ∧ w'.cell? ⟨w.heap.size + 1 + 1 + 1, 2, none⟩ = some (.int .i64 kb) ∧ w'.cell? ⟨w.heap.size + 1 + 1, 0, none⟩ = some (.slice (some ⟨g, 0, none⟩) nr cp) ∧ w'.cell? ⟨g, ka * 2, none⟩ = some (.int .i64 sa.lo) ∧ w'.cell? ⟨g, ka * 2 + 1, none⟩ = some (.int .i64 sa.hi) ∧ w'.cell? ⟨g, kb * 2, none⟩ = some (.int .i64 sb.lo) ∧ w'.cell? ⟨g, kb * 2 + 1, none⟩ = some (.int .i64 sb.hi)) ∧ AwW w w' g nr cp r ⟨17, ka, kb, c, n⟩ wd (.slice m.fa m.funcs.length m.fc) := fun w' h => by
    obtain ⟨_, a0, a1, _, _⟩ := h.row.cells4 ha
    obtain ⟨_, b0, b1, _, _⟩ := h.row.cells4 hb
    exact ⟨⟨h.x1, h.x2, h.rb, a0, a1, b0, b1⟩, h⟩
  go_cut [21, 22] (fun s21 s22 V => Cut17 w g nr cp r ⟨17, ka, kb, c, n⟩ wd (.slice m.fa m.funcs.length m.fc) sa sb s21 s22 V)
  case first =>
    go_region_held3 (fun w' => (w'.cell? ⟨w.heap.size + 1 + 1 + 1, 1, none⟩ = some (.int .i64 ka) ∧ w'.cell? ⟨w.heap.size + 1 + 1 + 1, 2, none⟩ = some (.int .i64 kb) ∧ w'.cell? ⟨w.heap.size + 1 + 1, 0, none⟩ = some (.slice (some ⟨g, 0, none⟩) nr cp) ∧ w'.cell? ⟨g, ka * 2, none⟩ = some (.int .i64 sa.lo) ∧ w'.cell? ⟨g, ka * 2 + 1, none⟩ = some (.int .i64 sa.hi) ∧ w'.cell? ⟨g, kb * 2, none⟩ = some (.int .i64 sb.lo) ∧ w'.cell? ⟨g, kb * 2 + 1, none⟩ = some (.int .i64 sb.hi)) ∧ AwW w w' g nr cp r ⟨17, ka, kb, c, n⟩ wd (.slice m.fa m.funcs.length m.fc)) (first | exact HS _ aw.drew | (refine HS _ ?_; repeat (first | exact aw | with_reducible refine AwW.drew ?_ | with_reducible refine AwW.alloc ?_ _ | (with_reducible refine AwW.far ?_ ?_ _; rotate_left; (· first | (simp; done) | (simp; omega)))))) (fail)
    all_goals
      rename_i hS2
      have aw2 := hS2.2
      clear hS2
      go_wp2_with fail
      go_meet
      unfold Cut17
      refine ⟨_, _, rfl, rfl, aw2, ?_, ?_, ?_, ?_⟩
      any_goals (first | omega | (simp; done) | (simp; omega))
      all_goals repeat (first | with_reducible exact Whl.new _ _ _ | with_reducible exact whlNew1 _ _ _ _ | with_reducible refine Whl.drew ?_ | with_reducible refine Whl.alloc ?_ _)
  case rest =>
    rename_i hcut
    obtain ⟨p, q, rfl, rfl, aw3, hp, hq, lp, lq⟩ := hcut
    clear aw HS hsz
    have c1 := aw3.x1
    have c2 := aw3.x2
    have c4 := aw3.x4
    have cb := aw3.rb
    have a0 := hp.cell 0
    have a1 := hp.cell 1
    have b0 := hq.cell 0
    have b1 := hq.cell 1
    simp at c1 c2 c4 a0 a1 b0 b1
    go_wp2
    refine ret_of ?_ rfl
    refine ⟨_, by simp [results, Tryd.results29, go_sem] <;> rfl, rfl, ⟨_, aw3.row, by simp [hr], fun _ h => Option.some.inj h⟩, aw3.gr⟩
set_option maxHeartbeats 4000000 in
theorem away_17_same_t (m : ModD) (f : FuncD) (frm ka kb : Nat) (too c n : Int) (hf : frm < f.code.length) (hx : nthX f.code frm = ⟨17, ((ka : Nat) : Int), ((kb : Nat) : Int), c, n⟩) (hl : f.code.length * 40 ≤ 140737488351232) (g nr cp : Nat) (r : List Sp) (hr : r.length = nr) (hc : nr ≤ cp) (hcp : cp ≤ maxLen) (sa : Sp) (ha : r[ka]? = some sa) (sb : Sp) (hb : r[kb]? = some sb) (hone : (n == (frm : Int) + 1) = false) (hone' : (n != (frm : Int) + 1) = true) (hab : ((ka : Int) == (kb : Int)) = true) (hto : (too == n) = true) (w : World) (hI : InsAt w w.heap.size f.ca f.code) (hR : RowS w g cp r) :
    Calls Tryd.prog 29 #[m.val, f.val, .int .i64 frm, .int .i64 too, .slice (some ⟨g, 0, none⟩) nr cp] w (AwayOk g cp nr (some r) w) := by
  obtain ⟨cb, co, hca, hcb, hcc⟩ := hI (by omega)
  have x0 := hcc frm hf 0 (by omega)
  have x1 := hcc frm hf 1 (by omega)
  have x2 := hcc frm hf 2 (by omega)
  have x3 := hcc frm hf 3 (by omega)
  have x4 := hcc frm hf 4 (by omega)
  simp only [hx, insV, Nat.add_zero] at x0 x1 x2 x3 x4
  obtain ⟨nm, pa, pc, ps, rg, wd, ca, cc, cd⟩ := f
  simp only at hca hf hl hx ⊢
  subst hca
  obtain ⟨hka, ya0, ya1, fa0, fa1⟩ := hR.cells4 ha
  have hna : ((ka : Nat) : Int) < (nr : Int) := by omega
  obtain ⟨hkb, yb0, yb1, fb0, fb1⟩ := hR.cells4 hb
  have hnb : ((kb : Nat) : Int) < (nr : Int) := by omega
  have lg := hR.lt
  have hfr : ((frm : Nat) : Int) < (cd.length : Int) := by omega
  unfold maxLen at hcp
  have HR := Lib.hid hR
  clear hcc hx hR
  go_enter Tryd.func29, Tryd.ntmps29
  go_upto_region 51 with fail
  generalize hW : ((((w.alloc (.cells #[.slice m.ta m.ths.length m.tc, .slice m.fa m.funcs.length m.fc] 25)).alloc (.cells #[.string nm, .slice pa ps.length pc, .int .i64 rg, .int .i64 wd, .slice (some ⟨cb, co, none⟩) cd.length cc] 48)).alloc (.cells #[.slice (some ⟨g, 0, none⟩) nr cp] 26)).alloc (.cells #[.int .i64 17, .int .i64 ((ka : Nat) : Int), .int .i64 ((kb : Nat) : Int), .int .i64 c, .int .i64 n] 65)) = W
  have aw : AwW w W g nr cp r ⟨17, ka, kb, c, n⟩ wd (.slice m.fa m.funcs.length m.fc) := by
    rw [← hW]; exact AwW.new (x := ⟨17, ka, kb, c, n⟩) HR.out _ _ _ _ _ _ _ _ _
  clear hW x0 x1 x2 x3 x4
  have hsz := aw.size
  have HS : ∀ w', AwW w w' g nr cp r ⟨17, ka, kb, c, n⟩ wd (.slice m.fa m.funcs.length m.fc) → (w'.cell? ⟨w.heap.size + 1 + 1 + 1, 1, none⟩ = some (.int .i64 ka) ∧ w'.cell? ⟨w.heap.size + 1 + 1 + 1, 2, none⟩ = some (.int .i64 kb) ∧ w'.cell? ⟨w.heap.size + 1 + 1, 0, none⟩ = some (.slice (some ⟨g, 0, none⟩) nr cp) ∧ w'.cell? ⟨g, ka * 2, none⟩ = some (.int .i64 sa.lo) ∧ w'.cell? ⟨g, ka * 2 + 1, none⟩ = some (.int .i64 sa.hi) ∧ w'.cell? ⟨g, kb * 2, none⟩ = some (.int .i64 sb.lo) ∧ w'.cell? ⟨g, kb * 2 + 1, none⟩ = some (.int .i64 sb.hi)) ∧ AwW w w' g nr cp r ⟨17, ka, kb, c, n⟩ wd (.slice m.fa m.funcs.length m.fc) := fun w' h => by
    obtain ⟨_, a0, a1, _, _⟩ := h.row.cells4 ha
    obtain ⟨_, b0, b1, _, _⟩ := h.row.cells4 hb
    exact ⟨⟨h.x1, h.x2, h.rb, a0, a1, b0, b1⟩, h⟩
  go_cut [21, 22] (fun s21 s22 V => Cut17 w g nr cp r ⟨17, ka, kb, c, n⟩ wd (.slice m.fa m.funcs.length m.fc) sa sb s21 s22 V)
  case first =>
    go_region_held3 (fun w' => (w'.cell? ⟨w.heap.size + 1 + 1 + 1, 1, none⟩ = some (.int .i64 ka) ∧ w'.cell? ⟨w.heap.size + 1 + 1 + 1, 2, none⟩ = some (.int .i64 kb) ∧ w'.cell? ⟨w.heap.size + 1 + 1, 0, none⟩ = some (.slice (some ⟨g, 0, none⟩) nr cp) ∧ w'.cell? ⟨g, ka * 2, none⟩ = some (.int .i64 sa.lo) ∧ w'.cell? ⟨g, ka * 2 + 1, none⟩ = some (.int .i64 sa.hi) ∧ w'.cell? ⟨g, kb * 2, none⟩ = some (.int .i64 sb.lo) ∧ w'.cell? ⟨g, kb * 2 + 1, none⟩ = some (.int .i64 sb.hi)) ∧ AwW w w' g nr cp r ⟨17, ka, kb, c, n⟩ wd (.slice m.fa m.funcs.length m.fc)) (first | exact HS _ aw.drew | (refine HS _ ?_; repeat (first | exact aw | with_reducible refine AwW.drew ?_ | with_reducible refine AwW.alloc ?_ _ | (with_reducible refine AwW.far ?_ ?_ _; rotate_left; (· first | (simp; done) | (simp; omega)))))) (fail)
    all_goals
      rename_i hS2
      have aw2 := hS2.2
      clear hS2
      go_wp2_with fail
      go_meet
      unfold Cut17
      refine ⟨_, _, rfl, rfl, aw2, ?_, ?_, ?_, ?_⟩
      any_goals (first | omega | (simp; done) | (simp; omega))
      all_goals repeat (first | with_reducible exact Whl.new _ _ _ | with_reducible exact whlNew1 _ _ _ _ | with_reducible refine Whl.drew ?_ | with_reducible refine Whl.alloc ?_ _)
  case rest =>
    rename_i hcut
    obtain ⟨p, q, rfl, rfl, aw3, hp, hq, lp, lq⟩ := hcut
    clear aw HS hsz
    have c1 := aw3.x1
    have c2 := aw3.x2
    have c4 := aw3.x4
    have cb := aw3.rb
    have a0 := hp.cell 0
    have a1 := hp.cell 1
    have b0 := hq.cell 0
    have b1 := hq.cell 1
    simp at c1 c2 c4 a0 a1 b0 b1
    go_wp2
    refine ret_of ?_ rfl
    refine ⟨_, by simp [results, Tryd.results29, go_sem] <;> rfl, rfl, ⟨_, aw3.row, by simp [hr], fun _ h => Option.some.inj h⟩, aw3.gr⟩
set_option maxHeartbeats 4000000 in
theorem away_17_same_f (m : ModD) (f : FuncD) (frm ka kb : Nat) (too c n : Int) (hf : frm < f.code.length) (hx : nthX f.code frm = ⟨17, ((ka : Nat) : Int), ((kb : Nat) : Int), c, n⟩) (hl : f.code.length * 40 ≤ 140737488351232) (g nr cp : Nat) (r : List Sp) (hr : r.length = nr) (hc : nr ≤ cp) (hcp : cp ≤ maxLen) (sa : Sp) (ha : r[ka]? = some sa) (sb : Sp) (hb : r[kb]? = some sb) (hone : (n == (frm : Int) + 1) = false) (hone' : (n != (frm : Int) + 1) = true) (hab : ((ka : Int) == (kb : Int)) = true) (hto : (too == n) = false) (w : World) (hI : InsAt w w.heap.size f.ca f.code) (hR : RowS w g cp r) :
    Calls Tryd.prog 29 #[m.val, f.val, .int .i64 frm, .int .i64 too, .slice (some ⟨g, 0, none⟩) nr cp] w (AwayOk g cp nr none w) := by
  obtain ⟨cb, co, hca, hcb, hcc⟩ := hI (by omega)
  have x0 := hcc frm hf 0 (by omega)
  have x1 := hcc frm hf 1 (by omega)
  have x2 := hcc frm hf 2 (by omega)
  have x3 := hcc frm hf 3 (by omega)
  have x4 := hcc frm hf 4 (by omega)
  simp only [hx, insV, Nat.add_zero] at x0 x1 x2 x3 x4
  obtain ⟨nm, pa, pc, ps, rg, wd, ca, cc, cd⟩ := f
  simp only at hca hf hl hx ⊢
  subst hca
  obtain ⟨hka, ya0, ya1, fa0, fa1⟩ := hR.cells4 ha
  have hna : ((ka : Nat) : Int) < (nr : Int) := by omega
  obtain ⟨hkb, yb0, yb1, fb0, fb1⟩ := hR.cells4 hb
  have hnb : ((kb : Nat) : Int) < (nr : Int) := by omega
  have lg := hR.lt
  have hfr : ((frm : Nat) : Int) < (cd.length : Int) := by omega
  unfold maxLen at hcp
  have HR := Lib.hid hR
  clear hcc hx hR
  go_enter Tryd.func29, Tryd.ntmps29
  go_upto_region 51 with fail
  generalize hW : ((((w.alloc (.cells #[.slice m.ta m.ths.length m.tc, .slice m.fa m.funcs.length m.fc] 25)).alloc (.cells #[.string nm, .slice pa ps.length pc, .int .i64 rg, .int .i64 wd, .slice (some ⟨cb, co, none⟩) cd.length cc] 48)).alloc (.cells #[.slice (some ⟨g, 0, none⟩) nr cp] 26)).alloc (.cells #[.int .i64 17, .int .i64 ((ka : Nat) : Int), .int .i64 ((kb : Nat) : Int), .int .i64 c, .int .i64 n] 65)) = W
  have aw : AwW w W g nr cp r ⟨17, ka, kb, c, n⟩ wd (.slice m.fa m.funcs.length m.fc) := by
    rw [← hW]; exact AwW.new (x := ⟨17, ka, kb, c, n⟩) HR.out _ _ _ _ _ _ _ _ _
  clear hW x0 x1 x2 x3 x4
  have hsz := aw.size
  have HS : ∀ w', AwW w w' g nr cp r ⟨17, ka, kb, c, n⟩ wd (.slice m.fa m.funcs.length m.fc) → (w'.cell? ⟨w.heap.size + 1 + 1 + 1, 1, none⟩ = some (.int .i64 ka) ∧ w'.cell? ⟨w.heap.size + 1 + 1 + 1, 2, none⟩ = some (.int .i64 kb) ∧ w'.cell? ⟨w.heap.size + 1 + 1, 0, none⟩ = some (.slice (some ⟨g, 0, none⟩) nr cp) ∧ w'.cell? ⟨g, ka * 2, none⟩ = some (.int .i64 sa.lo) ∧ w'.cell? ⟨g, ka * 2 + 1, none⟩ = some (.int .i64 sa.hi) ∧ w'.cell? ⟨g, kb * 2, none⟩ = some (.int .i64 sb.lo) ∧ w'.cell? ⟨g, kb * 2 + 1, none⟩ = some (.int .i64 sb.hi)) ∧ AwW w w' g nr cp r ⟨17, ka, kb, c, n⟩ wd (.slice m.fa m.funcs.length m.fc) := fun w' h => by
    obtain ⟨_, a0, a1, _, _⟩ := h.row.cells4 ha
    obtain ⟨_, b0, b1, _, _⟩ := h.row.cells4 hb
    exact ⟨⟨h.x1, h.x2, h.rb, a0, a1, b0, b1⟩, h⟩
  go_cut [21, 22] (fun s21 s22 V => Cut17 w g nr cp r ⟨17, ka, kb, c, n⟩ wd (.slice m.fa m.funcs.length m.fc) sa sb s21 s22 V)
  case first =>
    go_region_held3 (fun w' => (w'.cell? ⟨w.heap.size + 1 + 1 + 1, 1, none⟩ = some (.int .i64 ka) ∧ w'.cell? ⟨w.heap.size + 1 + 1 + 1, 2, none⟩ = some (.int .i64 kb) ∧ w'.cell? ⟨w.heap.size + 1 + 1, 0, none⟩ = some (.slice (some ⟨g, 0, none⟩) nr cp) ∧ w'.cell? ⟨g, ka * 2, none⟩ = some (.int .i64 sa.lo) ∧ w'.cell? ⟨g, ka * 2 + 1, none⟩ = some (.int .i64 sa.hi) ∧ w'.cell? ⟨g, kb * 2, none⟩ = some (.int .i64 sb.lo) ∧ w'.cell? ⟨g, kb * 2 + 1, none⟩ = some (.int .i64 sb.hi)) ∧ AwW w w' g nr cp r ⟨17, ka, kb, c, n⟩ wd (.slice m.fa m.funcs.length m.fc)) (first | exact HS _ aw.drew | (refine HS _ ?_; repeat (first | exact aw | with_reducible refine AwW.drew ?_ | with_reducible refine AwW.alloc ?_ _ | (with_reducible refine AwW.far ?_ ?_ _; rotate_left; (· first | (simp; done) | (simp; omega)))))) (fail)
    all_goals
      rename_i hS2
      have aw2 := hS2.2
      clear hS2
      go_wp2_with fail
      go_meet
      unfold Cut17
      refine ⟨_, _, rfl, rfl, aw2, ?_, ?_, ?_, ?_⟩
      any_goals (first | omega | (simp; done) | (simp; omega))
      all_goals repeat (first | with_reducible exact Whl.new _ _ _ | with_reducible exact whlNew1 _ _ _ _ | with_reducible refine Whl.drew ?_ | with_reducible refine Whl.alloc ?_ _)
  case rest =>
    rename_i hcut
    obtain ⟨p, q, rfl, rfl, aw3, hp, hq, lp, lq⟩ := hcut
    clear aw HS hsz
    have c1 := aw3.x1
    have c2 := aw3.x2
    have c4 := aw3.x4
    have cb := aw3.rb
    have a0 := hp.cell 0
    have a1 := hp.cell 1
    have b0 := hq.cell 0
    have b1 := hq.cell 1
    simp at c1 c2 c4 a0 a1 b0 b1
    go_wp2
    refine ret_of ?_ rfl
    refine ⟨_, by simp [results, Tryd.results29, go_sem] <;> rfl, rfl, ⟨_, aw3.row, by simp [hr], fun _ h => by cases h⟩, aw3.gr⟩
end Go.Proofs.YtddobhneplfddaaDoor
