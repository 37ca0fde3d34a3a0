/-
  Layer 16 (bounds): AwayA, AwW, StP, AwX, AwayL, StQ.
-/
import Derived.Test.YtddobhneplfddaaDoorV12
namespace Go.Proofs.YtddobhneplfddaaDoor
set_option maxRecDepth 100000
open Go.RowKit
set_option linter.unusedSimpArgs false
set_option linter.unusedVariables false
/-- What away answers: whether the way is gone; the row of spans then. -/
def AwayOk (g cp : Nat) (n : Nat) (o : Option (List Sp)) (w : World) (e : Ending) (w' : World) : Prop :=
  e = .returned (.bool o.isSome) ∧ (∃ r', RowS w' g cp r' ∧ r'.length = n ∧ ∀ q, o = some q → r' = q) ∧ w.grownBy w' (some g)
set_option maxHeartbeats 4000000 in
theorem away_0 (m : ModD) (f : FuncD) (frm  : Nat) (to a b c n : Int) (hf : frm < f.code.length) (hx : nthX f.code frm = ⟨0, a, b, c, n⟩) (hl : f.code.length * 40 ≤ 140737488351232) (g nr cp : Nat) (r : List Sp) (hr : r.length = nr) (hc : nr ≤ cp) (hcp : cp ≤ maxLen) (w : World) (hI : InsAt w w.heap.size f.ca f.code) (hR : RowS w g cp r) :
    Calls Tryd.prog 29 #[m.val, f.val, .int .i64 frm, .int .i64 to, .slice (some ⟨g, 0, none⟩) nr cp] w (AwayOk g cp nr (some r) w) := by
  obtain ⟨cb, co, hca, hcb, hcc⟩ := hI (by omega)
  have x0 := hcc frm hf 0 (by omega)
  have x1 := hcc frm hf 1 (by omega)
  have x2 := hcc frm hf 2 (by omega)
  have x3 := hcc frm hf 3 (by omega)
  have x4 := hcc frm hf 4 (by omega)
  simp only [hx, insV, Nat.add_zero] at x0 x1 x2 x3 x4
  obtain ⟨nm, pa, pc, ps, rg, wd, ca, cc, cd⟩ := f
  simp only at hca hf hl hx ⊢
  subst hca
  have lg := hR.lt
  have hfr : ((frm : Nat) : Int) < (cd.length : Int) := by omega
  unfold maxLen at hcp
  have HR := Lib.hid hR
  clear hcc hx hR
  go_enter Tryd.func29, Tryd.ntmps29
  go_wp2
  all_goals
    have hR := HR.out
    refine ret_of ?_ rfl
    refine ⟨_, by simp [results, Tryd.results29, go_sem] <;> rfl, rfl, ⟨r, ?_, by simp [hr], fun _ h => Option.some.inj h⟩, ?_⟩
    · repeat (first | with_reducible exact hR | with_reducible refine RowS.drew ?_ | with_reducible refine RowS.drewN ?_ _ | with_reducible refine RowS.alloc ?_ _ | (with_reducible refine RowS.far ?_ ?_ _; rotate_left; (· first | (simp; done) | (simp; omega))))
    · repeat (first | with_reducible exact gwRefl _ _ | with_reducible refine gwPutG ?_ _ _ | (with_reducible refine gwPut ?_ ?_ _; rotate_left; (· first | (simp; done) | (simp; omega))) | with_reducible refine gwNew ?_ _ | with_reducible refine gwDrawn ?_ | with_reducible refine gwDrawnN ?_ _)
set_option maxHeartbeats 4000000 in
theorem away_14 (m : ModD) (f : FuncD) (frm  : Nat) (to a b c n : Int) (hf : frm < f.code.length) (hx : nthX f.code frm = ⟨14, a, b, c, n⟩) (hl : f.code.length * 40 ≤ 140737488351232) (g nr cp : Nat) (r : List Sp) (hr : r.length = nr) (hc : nr ≤ cp) (hcp : cp ≤ maxLen) (w : World) (hI : InsAt w w.heap.size f.ca f.code) (hR : RowS w g cp r) :
    Calls Tryd.prog 29 #[m.val, f.val, .int .i64 frm, .int .i64 to, .slice (some ⟨g, 0, none⟩) nr cp] w (AwayOk g cp nr (some r) w) := by
  obtain ⟨cb, co, hca, hcb, hcc⟩ := hI (by omega)
  have x0 := hcc frm hf 0 (by omega)
  have x1 := hcc frm hf 1 (by omega)
  have x2 := hcc frm hf 2 (by omega)
  have x3 := hcc frm hf 3 (by omega)
  have x4 := hcc frm hf 4 (by omega)
  simp only [hx, insV, Nat.add_zero] at x0 x1 x2 x3 x4
  obtain ⟨nm, pa, pc, ps, rg, wd, ca, cc, cd⟩ := f
  simp only at hca hf hl hx ⊢
  subst hca
  have lg := hR.lt
  have hfr : ((frm : Nat) : Int) < (cd.length : Int) := by omega
  unfold maxLen at hcp
  have HR := Lib.hid hR
  clear hcc hx hR
  go_enter Tryd.func29, Tryd.ntmps29
  go_wp2
  all_goals
    have hR := HR.out
    refine ret_of ?_ rfl
    refine ⟨_, by simp [results, Tryd.results29, go_sem] <;> rfl, rfl, ⟨r, ?_, by simp [hr], fun _ h => Option.some.inj h⟩, ?_⟩
    · repeat (first | with_reducible exact hR | with_reducible refine RowS.drew ?_ | with_reducible refine RowS.drewN ?_ _ | with_reducible refine RowS.alloc ?_ _ | (with_reducible refine RowS.far ?_ ?_ _; rotate_left; (· first | (simp; done) | (simp; omega))))
    · repeat (first | with_reducible exact gwRefl _ _ | with_reducible refine gwPutG ?_ _ _ | (with_reducible refine gwPut ?_ ?_ _; rotate_left; (· first | (simp; done) | (simp; omega))) | with_reducible refine gwNew ?_ _ | with_reducible refine gwDrawn ?_ | with_reducible refine gwDrawnN ?_ _)
set_option maxHeartbeats 4000000 in
theorem away_1 (m : ModD) (f : FuncD) (frm ka : Nat) (to b c n : Int) (hf : frm < f.code.length) (hx : nthX f.code frm = ⟨1, ((ka : Nat) : Int), b, c, n⟩) (hl : f.code.length * 40 ≤ 140737488351232) (g nr cp : Nat) (r : List Sp) (hr : r.length = nr) (hc : nr ≤ cp) (hcp : cp ≤ maxLen) (sa : Sp) (ha : r[ka]? = some sa) (w : World) (hI : InsAt w w.heap.size f.ca f.code) (hR : RowS w g cp r) :
    Calls Tryd.prog 29 #[m.val, f.val, .int .i64 frm, .int .i64 to, .slice (some ⟨g, 0, none⟩) nr cp] w (AwayOk g cp nr (some (r.set ka ⟨n, n⟩)) w) := by
  obtain ⟨cb, co, hca, hcb, hcc⟩ := hI (by omega)
  have x0 := hcc frm hf 0 (by omega)
  have x1 := hcc frm hf 1 (by omega)
  have x2 := hcc frm hf 2 (by omega)
  have x3 := hcc frm hf 3 (by omega)
  have x4 := hcc frm hf 4 (by omega)
  simp only [hx, insV, Nat.add_zero] at x0 x1 x2 x3 x4
  obtain ⟨nm, pa, pc, ps, rg, wd, ca, cc, cd⟩ := f
  simp only at hca hf hl hx ⊢
  subst hca
  obtain ⟨hka, ya0, ya1, fa0, fa1⟩ := hR.cells4 ha
  have hna : ((ka : Nat) : Int) < (nr : Int) := by omega
  have lg := hR.lt
  have hfr : ((frm : Nat) : Int) < (cd.length : Int) := by omega
  unfold maxLen at hcp
  have HR := Lib.hid hR
  clear hcc hx hR
  go_enter Tryd.func29, Tryd.ntmps29
  go_wp2
  all_goals
    have hR := HR.out
    refine ret_of ?_ rfl
    refine ⟨_, by simp [results, Tryd.results29, go_sem] <;> rfl, rfl, ⟨r.set ka ⟨n, n⟩, ?_, by simp [hr], fun _ h => Option.some.inj h⟩, ?_⟩
    · repeat (first | with_reducible exact hR | with_reducible refine RowS.drew ?_ | with_reducible refine RowS.drewN ?_ _ | with_reducible refine RowS.alloc ?_ _ | with_reducible refine RowS.set ?_ hka ⟨n, n⟩ | (with_reducible refine RowS.far ?_ ?_ _; rotate_left; (· first | (simp; done) | (simp; omega))))
    · repeat (first | with_reducible exact gwRefl _ _ | with_reducible refine gwPutG ?_ _ _ | (with_reducible refine gwPut ?_ ?_ _; rotate_left; (· first | (simp; done) | (simp; omega))) | with_reducible refine gwNew ?_ _ | with_reducible refine gwDrawn ?_ | with_reducible refine gwDrawnN ?_ _)
set_option maxHeartbeats 4000000 in
theorem away_2 (m : ModD) (f : FuncD) (frm ka kb : Nat) (to c n : Int) (hf : frm < f.code.length) (hx : nthX f.code frm = ⟨2, ((ka : Nat) : Int), ((kb : Nat) : Int), c, n⟩) (hl : f.code.length * 40 ≤ 140737488351232) (g nr cp : Nat) (r : List Sp) (hr : r.length = nr) (hc : nr ≤ cp) (hcp : cp ≤ maxLen) (sa : Sp) (ha : r[ka]? = some sa) (sb : Sp) (hb : r[kb]? = some sb) (w : World) (hI : InsAt w w.heap.size f.ca f.code) (hR : RowS w g cp r) :
    Calls Tryd.prog 29 #[m.val, f.val, .int .i64 frm, .int .i64 to, .slice (some ⟨g, 0, none⟩) nr cp] w (AwayOk g cp nr (some (r.set ka sb)) w) := by
  obtain ⟨cb, co, hca, hcb, hcc⟩ := hI (by omega)
  have x0 := hcc frm hf 0 (by omega)
  have x1 := hcc frm hf 1 (by omega)
  have x2 := hcc frm hf 2 (by omega)
  have x3 := hcc frm hf 3 (by omega)
  have x4 := hcc frm hf 4 (by omega)
  simp only [hx, insV, Nat.add_zero] at x0 x1 x2 x3 x4
  obtain ⟨nm, pa, pc, ps, rg, wd, ca, cc, cd⟩ := f
  simp only at hca hf hl hx ⊢
  subst hca
  obtain ⟨hka, ya0, ya1, fa0, fa1⟩ := hR.cells4 ha
  have hna : ((ka : Nat) : Int) < (nr : Int) := by omega
  obtain ⟨hkb, yb0, yb1, fb0, fb1⟩ := hR.cells4 hb
  have hnb : ((kb : Nat) : Int) < (nr : Int) := by omega
  have lg := hR.lt
  have hfr : ((frm : Nat) : Int) < (cd.length : Int) := by omega
  unfold maxLen at hcp
  have HR := Lib.hid hR
  clear hcc hx hR
  go_enter Tryd.func29, Tryd.ntmps29
  go_wp2
  all_goals
    go_region
    all_goals go_wp2
  all_goals
    have hR := HR.out
    refine ret_of ?_ rfl
    refine ⟨_, by simp [results, Tryd.results29, go_sem] <;> rfl, rfl, ⟨r.set ka sb, ?_, by simp [hr], fun _ h => Option.some.inj h⟩, ?_⟩
    · repeat (first | with_reducible exact hR | with_reducible refine RowS.drew ?_ | with_reducible refine RowS.drewN ?_ _ | with_reducible refine RowS.alloc ?_ _ | with_reducible refine RowS.set ?_ hka sb | (with_reducible refine RowS.far ?_ ?_ _; rotate_left; (· first | (simp; done) | (simp; omega))))
    · repeat (first | with_reducible exact gwRefl _ _ | with_reducible refine gwPutG ?_ _ _ | (with_reducible refine gwPut ?_ ?_ _; rotate_left; (· first | (simp; done) | (simp; omega))) | with_reducible refine gwNew ?_ _ | with_reducible refine gwDrawn ?_ | with_reducible refine gwDrawnN ?_ _)
end Go.Proofs.YtddobhneplfddaaDoor

namespace Go.Proofs.YtddobhneplfddaaDoor
set_option maxRecDepth 100000
open Go.RowKit
set_option linter.unusedSimpArgs false
set_option linter.unusedVariables false
structure AwW (w W : World) (g nr cp : Nat) (r : List Sp) (x : InsD) (wd : Int) (fv : Value) : Prop where
  size : w.heap.size + 1 + 1 + 1 + 1 ≤ W.heap.size
  x0 : W.cell? ⟨w.heap.size + 1 + 1 + 1, 0, none⟩ = some (.int .i64 x.op)
  x1 : W.cell? ⟨w.heap.size + 1 + 1 + 1, 1, none⟩ = some (.int .i64 x.a)
  x2 : W.cell? ⟨w.heap.size + 1 + 1 + 1, 2, none⟩ = some (.int .i64 x.b)
  x3 : W.cell? ⟨w.heap.size + 1 + 1 + 1, 3, none⟩ = some (.int .i64 x.c)
  x4 : W.cell? ⟨w.heap.size + 1 + 1 + 1, 4, none⟩ = some (.int .i64 x.n)
  rb : W.cell? ⟨w.heap.size + 1 + 1, 0, none⟩ = some (.slice (some ⟨g, 0, none⟩) nr cp)
  wd : W.cell? ⟨w.heap.size + 1, 3, none⟩ = some (.int .i64 wd)
  fs : W.cell? ⟨w.heap.size, 1, none⟩ = some fv
  lg : g < w.heap.size
  row : RowS W g cp r
  gr : w.grownBy W (some g)
namespace AwW
variable {w W W' : World} {g nr cp : Nat} {r : List Sp} {x : InsD} {wd : Int} {fv : Value}
theorem below (h : AwW w W g nr cp r x wd fv) (hb : Below W.heap.size W W') : AwW w W' g nr cp r x wd fv :=
  ⟨Nat.le_trans h.size hb.size, cellK hb h.x0, cellK hb h.x1, cellK hb h.x2, cellK hb h.x3, cellK hb h.x4, cellK hb h.rb, cellK hb h.wd, cellK hb h.fs, h.lg, h.row.below' hb, gwStep h.gr hb⟩
theorem alloc (h : AwW w W g nr cp r x wd fv) (b : Obj) : AwW w (W.alloc b) g nr cp r x wd fv := h.below (below_alloc (Below.refl _ _) _)
theorem drew (h : AwW w W g nr cp r x wd fv) : AwW w W.drew g nr cp r x wd fv := h.below (Below.refl _ _).drew
/-- A store into a block that is newer than all these. -/
theorem far (h : AwW w W g nr cp r x wd fv) {p : Addr} (hp : w.heap.size + 1 + 1 + 1 + 1 ≤ p.block) (v : Value) : AwW w (W.setCell p v) g nr cp r x wd fv := by
  have lg := h.lg
  have c : ∀ (b o : Nat), b < w.heap.size + 1 + 1 + 1 + 1 → (W.setCell p v).cell? ⟨b, o, none⟩ = W.cell? ⟨b, o, none⟩ := fun b o hb => by
    rw [World.cell?, World.cell?, Below.heap_setCell _ _ _ b (by omega)]
  exact ⟨by have := h.size; simpa using this, by rw [c _ _ (by omega)]; exact h.x0, by rw [c _ _ (by omega)]; exact h.x1, by rw [c _ _ (by omega)]; exact h.x2, by rw [c _ _ (by omega)]; exact h.x3, by rw [c _ _ (by omega)]; exact h.x4, by rw [c _ _ (by omega)]; exact h.rb, by rw [c _ _ (by omega)]; exact h.wd, by rw [c _ _ (by omega)]; exact h.fs, lg, h.row.far (by omega) v, gwPut h.gr (by omega) v⟩
/-- A store into the row. -/
theorem put (h : AwW w W g nr cp r x wd fv) {k : Nat} (hk : k < r.length) (a : Sp) : AwW w ((W.setCell ⟨g, k * 2, none⟩ (.int .i64 a.lo)).setCell ⟨g, k * 2 + 1, none⟩ (.int .i64 a.hi)) g nr cp (r.set k a) x wd fv := by
  have lg := h.lg
  have c : ∀ (b o : Nat), b ≠ g → ((W.setCell ⟨g, k * 2, none⟩ (.int .i64 a.lo)).setCell ⟨g, k * 2 + 1, none⟩ (.int .i64 a.hi)).cell? ⟨b, o, none⟩ = W.cell? ⟨b, o, none⟩ := fun b o hb => by
    rw [World.cell?, World.cell?, Below.heap_setCell _ _ _ b hb, Below.heap_setCell _ _ _ b hb]
  exact ⟨by have := h.size; simpa using this, by rw [c _ _ (by omega)]; exact h.x0, by rw [c _ _ (by omega)]; exact h.x1, by rw [c _ _ (by omega)]; exact h.x2, by rw [c _ _ (by omega)]; exact h.x3, by rw [c _ _ (by omega)]; exact h.x4, by rw [c _ _ (by omega)]; exact h.rb, by rw [c _ _ (by omega)]; exact h.wd, by rw [c _ _ (by omega)]; exact h.fs, lg, h.row.set hk a, gwPutG (gwPutG h.gr _ _) _ _⟩
/-- At the beginning. -/
theorem new (hR : RowS w g cp r) (v0 f0 f1 f2 f4 : Value) (t1 t2 t3 t4 : TypeId) :
    AwW w ((((w.alloc (.cells #[v0, fv] t1)).alloc (.cells #[f0, f1, f2, .int .i64 wd, f4] t2)).alloc (.cells #[.slice (some ⟨g, 0, none⟩) nr cp] t3)).alloc (.cells #[.int .i64 x.op, .int .i64 x.a, .int .i64 x.b, .int .i64 x.c, .int .i64 x.n] t4)) g nr cp r x wd fv := by
  have W1 := ((Whl.new w t1 #[v0, fv]).alloc (.cells #[f0, f1, f2, .int .i64 wd, f4] t2)).alloc (.cells #[.slice (some ⟨g, 0, none⟩) nr cp] t3) |>.alloc (.cells #[.int .i64 x.op, .int .i64 x.a, .int .i64 x.b, .int .i64 x.c, .int .i64 x.n] t4)
  have W2 := ((Whl.new (w.alloc (.cells #[v0, fv] t1)) t2 #[f0, f1, f2, .int .i64 wd, f4]).alloc (.cells #[.slice (some ⟨g, 0, none⟩) nr cp] t3)).alloc (.cells #[.int .i64 x.op, .int .i64 x.a, .int .i64 x.b, .int .i64 x.c, .int .i64 x.n] t4)
  have W3 := (Whl.new ((w.alloc (.cells #[v0, fv] t1)).alloc (.cells #[f0, f1, f2, .int .i64 wd, f4] t2)) t3 #[.slice (some ⟨g, 0, none⟩) nr cp]).alloc (.cells #[.int .i64 x.op, .int .i64 x.a, .int .i64 x.b, .int .i64 x.c, .int .i64 x.n] t4)
  have W4 := Whl.new (((w.alloc (.cells #[v0, fv] t1)).alloc (.cells #[f0, f1, f2, .int .i64 wd, f4] t2)).alloc (.cells #[.slice (some ⟨g, 0, none⟩) nr cp] t3)) t4 #[.int .i64 x.op, .int .i64 x.a, .int .i64 x.b, .int .i64 x.c, .int .i64 x.n]
  simp only [World.size_alloc] at W2 W3 W4
  exact ⟨by simp, W4.cell 0, W4.cell 1, W4.cell 2, W4.cell 3, W4.cell 4, W3.cell 0, W2.cell 3, W1.cell 1, hR.lt, ((((hR.alloc _).alloc _).alloc _).alloc _), gwNew (gwNew (gwNew (gwNew (gwRefl _ _) _) _) _) _⟩
end AwW
end Go.Proofs.YtddobhneplfddaaDoor

namespace Go.Proofs.YtddobhneplfddaaDoor
set_option maxRecDepth 100000
open Go.RowKit
set_option linter.unusedSimpArgs false
set_option linter.unusedVariables false
/-- Where the parts of the state lie. -/
structure Lay where
  inb : Nat
  chb : Nat
  mkb : Nat
  jnb : Nat
  ga : Nat → Nat
  cp : Nat → Nat
  ca : Nat → Nat
/-- Block g begins with these spans, and may be written, in the room of a slice and behind it. -/
def RowE (w : World) (g cp : Nat) (r : List Sp) : Prop := ∃ bc, cp ≤ bc ∧ RowS w g bc r
theorem RowS.toE {w : World} {g cp : Nat} {r : List Sp} (h : RowS w g cp r) : RowE w g cp r := ⟨cp, Nat.le_refl _, h⟩
namespace RowE
variable {w w' : World} {g cp : Nat} {r : List Sp}
theorem lt (h : RowE w g cp r) : g < w.heap.size := by obtain ⟨_, _, h⟩ := h; exact h.lt
theorem drew (h : RowE w g cp r) : RowE w.drew g cp r := h
theorem far (h : RowE w g cp r) {p : Addr} (hp : g ≠ p.block) (u : Value) : RowE (w.setCell p u) g cp r := by obtain ⟨bc, hc, h⟩ := h; exact ⟨bc, hc, h.far hp u⟩
theorem set (h : RowE w g cp r) {k : Nat} (hk : k < r.length) (a : Sp) : RowE ((w.setCell ⟨g, k * 2, none⟩ (.int .i64 a.lo)).setCell ⟨g, k * 2 + 1, none⟩ (.int .i64 a.hi)) g cp (r.set k a) := by obtain ⟨bc, hc, h⟩ := h; exact ⟨bc, hc, h.set hk a⟩
end RowE
def inV (L : Lay) (R : Nat) (s : StD) (i : Nat) : Value :=
  match s.ins.getD i none with
  | none => .slice none 0 0
  | some _ => .slice (some ⟨L.ga i, 0, none⟩) R (L.cp i)
def chV (L : Lay) (R : Nat) (i : Nat) : Value := .slice (some ⟨L.ca i, 0, none⟩) R R
def Lay.has (L : Lay) (sb n : Nat) (s : StD) (k : Nat) : Prop :=
  k = sb ∨ k = L.inb ∨ k = L.chb ∨ k = L.mkb ∨ k = L.jnb ∨ (∃ i, i < n ∧ k = L.ca i) ∨ ∃ i l, s.ins.getD i none = some l ∧ k = L.ga i
def cellsN (l : List Nat) : Array Value := (l.map fun (c : Nat) => Value.int .i64 (c : Int)).toArray
structure StP (W : World) (B n R sb : Nat) (L : Lay) (s : StD) : Prop where
  st : Whl W sb 69 #[.slice (some ⟨L.inb, 0, none⟩) n n, .slice (some ⟨L.chb, 0, none⟩) n n, .slice (some ⟨L.mkb, 0, none⟩) n n, .slice (some ⟨L.jnb, 0, none⟩) n n]
  ins : Whl W L.inb 26 ((List.range n).map (inV L R s)).toArray
  chs : Whl W L.chb 44 ((List.range n).map (chV L R)).toArray
  mks : Whl W L.mkb 4 (s.marked.map Value.bool).toArray
  jns : Whl W L.jnb 3 (cellsN s.joined)
  rows : ∀ i l, s.ins.getD i none = some l → RowE W (L.ga i) (L.cp i) l ∧ R ≤ L.cp i ∧ L.cp i ≤ maxLen
  cnts : ∀ i, i < n → Whl W (L.ca i) 3 (cellsN (s.changes.getD i []))
  apart : ∀ i, i < n → L.ca i ≠ L.jnb
  ca : ∀ i j, i < n → j < n → L.ca i = L.ca j → i = j
  ga : ∀ i j l m, s.ins.getD i none = some l → s.ins.getD j none = some m → L.ga i = L.ga j → i = j
  old : ∀ k, L.has sb n s k → B ≤ k
theorem whl_apart {W : World} {a b : Nat} {t u : TypeId} {cs ds : Array Value} (h : Whl W a t cs) (k : Whl W b u ds) (hne : t ≠ u) : a ≠ b := fun e => by
  subst e
  unfold Whl at h k
  rw [h] at k
  cases k
  exact hne rfl
theorem row_whl {W : World} {g cp : Nat} {r : List Sp} (h : RowE W g cp r) : ∃ cur, Whl W g 34 cur := by obtain ⟨_, _, h⟩ := h; exact ⟨h.choose, h.choose_spec.1⟩
namespace StP
variable {W W' : World} {B n R sb : Nat} {L : Lay} {s : StD}
theorem lt (h : StP W B n R sb L s) {k : Nat} (hk : L.has sb n s k) : k < W.heap.size := by
  rcases hk with rfl | rfl | rfl | rfl | rfl | ⟨i, hi, rfl⟩ | ⟨i, l, hl, rfl⟩
  · exact h.st.lt
  · exact h.ins.lt
  · exact h.chs.lt
  · exact h.mks.lt
  · exact h.jns.lt
  · exact (h.cnts i hi).lt
  · exact (h.rows i l hl).1.lt
/-- Another world in which these blocks are as they were. -/
theorem keep (h : StP W B n R sb L s) (hk : ∀ k, L.has sb n s k → W'.heap[k]? = W.heap[k]?) : StP W' B n R sb L s := by
  refine ⟨(hk _ (.inl rfl)).trans h.st, (hk _ (.inr (.inl rfl))).trans h.ins, (hk _ (.inr (.inr (.inl rfl)))).trans h.chs, (hk _ (.inr (.inr (.inr (.inl rfl))))).trans h.mks, (hk _ (.inr (.inr (.inr (.inr (.inl rfl)))))).trans h.jns, fun i l hl => ?_, fun i hi => (hk _ (.inr (.inr (.inr (.inr (.inr (.inl ⟨i, hi, rfl⟩))))))).trans (h.cnts i hi), h.apart, h.ca, h.ga, h.old⟩
  obtain ⟨⟨bc, hbc, cur, hw, hh⟩, hc⟩ := h.rows i l hl
  exact ⟨⟨bc, hbc, cur, (hk _ (.inr (.inr (.inr (.inr (.inr (.inr ⟨i, l, hl, rfl⟩))))))).trans hw, hh⟩, hc⟩
theorem below (h : StP W B n R sb L s) {H : Nat} (hb : Below H W W') (hH : ∀ k, L.has sb n s k → k < H) : StP W' B n R sb L s := h.keep fun k hk => hb.block k (hH k hk)
theorem below' (h : StP W B n R sb L s) (hb : Below W.heap.size W W') : StP W' B n R sb L s := h.below hb fun _ hk => h.lt hk
theorem alloc (h : StP W B n R sb L s) (o : Obj) : StP (W.alloc o) B n R sb L s := h.below' (below_alloc (Below.refl _ _) _)
theorem drew (h : StP W B n R sb L s) : StP W.drew B n R sb L s := h.keep fun _ _ => rfl
theorem drewN (h : StP W B n R sb L s) (k : Nat) : StP (W.drewN k) B n R sb L s := h.keep fun _ _ => rfl
theorem c0 (h : StP W B n R sb L s) : W.cell? ⟨sb, 0, none⟩ = some (.slice (some ⟨L.inb, 0, none⟩) n n) := h.st.cell 0
theorem c1 (h : StP W B n R sb L s) : W.cell? ⟨sb, 1, none⟩ = some (.slice (some ⟨L.chb, 0, none⟩) n n) := h.st.cell 1
theorem c2 (h : StP W B n R sb L s) : W.cell? ⟨sb, 2, none⟩ = some (.slice (some ⟨L.mkb, 0, none⟩) n n) := h.st.cell 2
theorem c3 (h : StP W B n R sb L s) : W.cell? ⟨sb, 3, none⟩ = some (.slice (some ⟨L.jnb, 0, none⟩) n n) := h.st.cell 3
theorem insC (h : StP W B n R sb L s) {i : Nat} (hi : i < n) : W.cell? ⟨L.inb, i, none⟩ = some (inV L R s i) := by
  rw [h.ins.cell]; simp [hi]
theorem chsC (h : StP W B n R sb L s) {i : Nat} (hi : i < n) : W.cell? ⟨L.chb, i, none⟩ = some (chV L R i) := by
  rw [h.chs.cell]; simp [hi]
theorem mksC (h : StP W B n R sb L s) {i : Nat} (hi : i < s.marked.length) : W.cell? ⟨L.mkb, i, none⟩ = some (.bool (s.marked.getD i false)) := by
  rw [h.mks.cell]; simp [hi, List.getD_eq_getElem?_getD]
theorem jnsC (h : StP W B n R sb L s) {i : Nat} (hi : i < s.joined.length) : W.cell? ⟨L.jnb, i, none⟩ = some (.int .i64 (s.joined.getD i 0 : Nat)) := by
  rw [h.jns.cell]; simp [cellsN, hi, List.getD_eq_getElem?_getD]
theorem cntC (h : StP W B n R sb L s) {i k : Nat} (hi : i < n) (hk : k < (s.changes.getD i []).length) : W.cell? ⟨L.ca i, k, none⟩ = some (.int .i64 ((s.changes.getD i []).getD k 0 : Nat)) := by
  rw [(h.cnts i hi).cell]
  generalize s.changes.getD i [] = l at *
  simp [cellsN, hk, List.getD_eq_getElem?_getD]
end StP
end Go.Proofs.YtddobhneplfddaaDoor

namespace Go.Proofs.YtddobhneplfddaaDoor
set_option maxRecDepth 100000
open Go.RowKit
set_option linter.unusedSimpArgs false
set_option linter.unusedVariables false
theorem gwCell {A B : World} {g : Nat} (h : A.grownBy B (some g)) {b : Nat} (hb : b < A.heap.size) (hg : b ≠ g) (o : Nat) : B.cell? ⟨b, o, none⟩ = A.cell? ⟨b, o, none⟩ := by
  rw [World.cell?, World.cell?, h.block b hb (fun e => hg (by cases e; rfl))]
namespace AwW
variable {w W W' : World} {g nr cp : Nat} {r : List Sp} {x : InsD} {wd : Int} {fv : Value}
theorem grown (h : AwW w W g nr cp r x wd fv) {r' : List Sp} (hR : RowS W' g cp r') (hg : W.grownBy W' (some g)) : AwW w W' g nr cp r' x wd fv := by
  have lg := h.lg
  have hs := h.size
  exact ⟨Nat.le_trans hs hg.size, by rw [gwCell hg (by omega) (by omega)]; exact h.x0, by rw [gwCell hg (by omega) (by omega)]; exact h.x1, by rw [gwCell hg (by omega) (by omega)]; exact h.x2, by rw [gwCell hg (by omega) (by omega)]; exact h.x3, by rw [gwCell hg (by omega) (by omega)]; exact h.x4, by rw [gwCell hg (by omega) (by omega)]; exact h.rb, by rw [gwCell hg (by omega) (by omega)]; exact h.wd, by rw [gwCell hg (by omega) (by omega)]; exact h.fs, lg, hR, gwTrans h.gr hg⟩
end AwW
/-- The inner function, called while away runs. -/
theorem meetAw (a s : Sp) (k g nr cp : Nat) (r : List Sp) (hr : r.length = nr) (hcp : cp ≤ maxLen) (hc : nr ≤ cp) (hs : r[k]? = some s) (w W : World) (x : InsD) (wd : Int) (fv : Value) (h : AwW w W g nr cp r x wd fv) :
    Calls Tryd.prog 53 #[.int .i64 (k : Int), .agg #[.int .i64 a.lo, .int .i64 a.hi], .pointer (some ⟨w.heap.size + 1 + 1, 0, none⟩)] W fun e w' => e = .returned (.bool (s.meetOk a)) ∧ AwW w w' g nr cp (r.set k (s.meet a)) x wd fv := by
  have lg := h.lg
  have hsz := h.size
  refine (meetC a s k g (w.heap.size + 1 + 1) nr cp r hr hcp hc hs W h.row h.rb (by omega) (by omega)).mono ?_
  rintro e w' ⟨rfl, h1, h2⟩
  exact ⟨rfl, h.grown h1 h2⟩
end Go.Proofs.YtddobhneplfddaaDoor

namespace Go.Proofs.YtddobhneplfddaaDoor
set_option maxRecDepth 100000
open Go.RowKit
set_option linter.unusedSimpArgs false
set_option linter.unusedVariables false
set_option maxHeartbeats 4000000 in
theorem away_11_ttt (m : ModD) (f : FuncD) (frm ka kb : Nat) (to c n : Int) (hf : frm < f.code.length) (hx : nthX f.code frm = ⟨11, ((ka : Nat) : Int), ((kb : Nat) : Int), c, n⟩) (hl : f.code.length * 40 ≤ 140737488351232) (g nr cp : Nat) (r : List Sp) (hr : r.length = nr) (hc : nr ≤ cp) (hcp : cp ≤ maxLen) (sa : Sp) (ha : r[ka]? = some sa) (sb : Sp) (hb : r[kb]? = some sb) (hn : In64 n) (hm : 0 ≤ f.words ∧ f.words ≤ 4096) (hwk : wordsOk n f.words = true) (hmk : sb.meetOk (wordsS n f.words) = true) (hto : (to == n) = true) (w : World) (hI : InsAt w w.heap.size f.ca f.code) (hR : RowS w g cp r) :
    Calls Tryd.prog 29 #[m.val, f.val, .int .i64 frm, .int .i64 to, .slice (some ⟨g, 0, none⟩) nr cp] w (AwayOk g cp nr (some ((r.set kb (sb.meet (wordsS n f.words))).set ka Sp.all)) w) := by
  obtain ⟨cb, co, hca, hcb, hcc⟩ := hI (by omega)
  have x0 := hcc frm hf 0 (by omega)
  have x1 := hcc frm hf 1 (by omega)
  have x2 := hcc frm hf 2 (by omega)
  have x3 := hcc frm hf 3 (by omega)
  have x4 := hcc frm hf 4 (by omega)
  simp only [hx, insV, Nat.add_zero] at x0 x1 x2 x3 x4
  obtain ⟨nm, pa, pc, ps, rg, wd, ca, cc, cd⟩ := f
  simp only at hca hf hl hx hm hwk ⊢
  simp only at hmk
  subst hca
  obtain ⟨hka, ya0, ya1, fa0, fa1⟩ := hR.cells4 ha
  have hna : ((ka : Nat) : Int) < (nr : Int) := by omega
  obtain ⟨hkb, yb0, yb1, fb0, fb1⟩ := hR.cells4 hb
  have hnb : ((kb : Nat) : Int) < (nr : Int) := by omega
  have lg := hR.lt
  have hfr : ((frm : Nat) : Int) < (cd.length : Int) := by omega
  unfold maxLen at hcp
  have HR := Lib.hid hR
  clear hcc hx hR
  go_enter Tryd.func29, Tryd.ntmps29
  go_wp2_with fail
  generalize hW : ((((w.alloc (.cells #[.slice m.ta m.ths.length m.tc, .slice m.fa m.funcs.length m.fc] 25)).alloc (.cells #[.string nm, .slice pa ps.length pc, .int .i64 rg, .int .i64 wd, .slice (some ⟨cb, co, none⟩) cd.length cc] 48)).alloc (.cells #[.slice (some ⟨g, 0, none⟩) nr cp] 26)).alloc (.cells #[.int .i64 11, .int .i64 ((ka : Nat) : Int), .int .i64 ((kb : Nat) : Int), .int .i64 c, .int .i64 n] 65)) = W
  have aw : AwW w W g nr cp r ⟨11, ka, kb, c, n⟩ wd (.slice m.fa m.funcs.length m.fc) := by
    rw [← hW]; exact AwW.new (x := ⟨11, ka, kb, c, n⟩) HR.out _ _ _ _ _ _ _ _ _
  clear hW x0 x1 x2 x3 x4
  have hsz := aw.size
  go_at_call 57
  refine (wordsP n wd hn hm _).mono ?_
  rintro e w1 ⟨⟨a1, rfl, ha1⟩, hb1⟩
  rw [hwk] at ha1 ⊢
  obtain rfl := ha1 rfl
  clear ha1
  have aw1 := AwW.alloc (AwW.below aw hb1) (.cells #[.int .i64 (wordsS n wd).lo, .int .i64 (wordsS n wd).hi] 34)
  have f2 := aw1.x2
  have f0 := aw1.x0
  clear hb1
  go_wp2_with fail
  go_at_call 53
  refine (meetAw (wordsS n wd) sb kb g nr cp r hr (by unfold maxLen; omega) hc hb w _ _ _ _ aw1).mono ?_
  rintro e w2 ⟨rfl, aw2⟩
  rw [hmk]
  have e0 := aw2.x0
  have e1 := aw2.x1
  have eb := aw2.rb
  have hrl : (r.set kb (sb.meet (wordsS n wd))).length = nr := by simp [hr]
  have hat : ∃ s, (r.set kb (sb.meet (wordsS n wd)))[ka]? = some s := ⟨_, List.getElem?_eq_getElem (by simp; omega)⟩
  clear aw aw1 f0 f2
  go_wp2
  have HS : ∀ w', (∃ r', r'.length = nr ∧ AwW w w' g nr cp r' ⟨11, ka, kb, c, n⟩ wd (.slice m.fa m.funcs.length m.fc)) → (w'.cell? ⟨w.heap.size + 1 + 1 + 1, 1, none⟩ = some (.int .i64 ka) ∧ w'.cell? ⟨w.heap.size + 1 + 1, 0, none⟩ = some (.slice (some ⟨g, 0, none⟩) nr cp)) ∧ ∃ r', r'.length = nr ∧ AwW w w' g nr cp r' ⟨11, ka, kb, c, n⟩ wd (.slice m.fa m.funcs.length m.fc) := fun w' ⟨r', hr', h⟩ => ⟨⟨h.x1, h.rb⟩, r', hr', h⟩
  refine wp_region_held_drew (S := (fun w' => (w'.cell? ⟨w.heap.size + 1 + 1 + 1, 1, none⟩ = some (.int .i64 ka) ∧ w'.cell? ⟨w.heap.size + 1 + 1, 0, none⟩ = some (.slice (some ⟨g, 0, none⟩) nr cp)) ∧ ∃ r', r'.length = nr ∧ AwW w w' g nr cp r' ⟨11, ka, kb, c, n⟩ wd (.slice m.fa m.funcs.length m.fc))) (by kernel_rfl) ?_ (fun hHeld => ?_)
  · (exact HS _ ⟨_, hrl, aw2.drew⟩)
  iterate 3
    refine wpAnyH_nx (v := ?_) rfl rfl (by kernel_rfl) (by kernel_rfl) (by kernel_rfl) (fun _ _ _ h => h) (Or.inl ⟨by rfl, ?_⟩) (by assumption) ?_
    rotate_left
    · (intro w' hSw; (try dsimp only at hSw); go_simp <;> with_reducible rfl)
    (try simp only [Act.put, List.setIfInBounds_toArray, List.set_cons_zero, List.set_cons_succ])
  refine wpAnyH_ready (rs := [3]) (by kernel_rfl) (by simp) ?_
  refine AllReadyH.cons rfl (fun K hK => ?_) AllReadyH.nil
  go_simp; go_at_call 58; refine (allP _).mono ?_; rintro e w3 ⟨rfl, hb3⟩; go_wp2_with fail; have hs3 := hb3.size; have aw3 := AwW.below aw2.drew hb3; obtain ⟨sx3, hsx3⟩ := hat; obtain ⟨hka3, g0, g1, h0, h1⟩ := aw3.row.cells4 hsx3
  refine hK.out _ _ ?_ (fun hHeld => ?_)
  · (exact HS _ ⟨_, hrl, aw3⟩)
  clear hK K
  (try simp only [Act.put, List.setIfInBounds_toArray, List.set_cons_zero, List.set_cons_succ])
  refine wpAnyH_take (i := 4) (v := ?_) rfl (by kernel_rfl) (by kernel_rfl) (by kernel_rfl) (fun _ _ _ h => h) (Or.inl ⟨by rfl, ?_⟩) (by assumption) ?_
  rotate_left
  · (intro w' hSw; (try dsimp only at hSw); go_simp <;> with_reducible rfl)
  (try simp only [Act.put, List.setIfInBounds_toArray, List.set_cons_zero, List.set_cons_succ])
  refine wpAnyH_ready (rs := [5]) (by kernel_rfl) (by simp) ?_
  refine AllReadyH.cons rfl (fun K hK => ?_) AllReadyH.nil
  go_simp
  refine hK.out _ _ ?_ (fun hHeld => ?_)
  · (exact HS _ ⟨_, by simp [hrl], AwW.put aw3 hka3 Sp.all⟩)
  clear hK K
  (try simp only [Act.put, List.setIfInBounds_toArray, List.set_cons_zero, List.set_cons_succ])
  refine wpAnyH_done (by kernel_rfl) ?_ _
  have fin := aw3.put hka3 Sp.all
  go_wp2
  refine ret_of ?_ rfl
  refine ⟨_, by simp [results, Tryd.results29, go_sem] <;> rfl, rfl, ⟨_, fin.row, by simp [hr], fun _ h => Option.some.inj h⟩, fin.gr⟩
set_option maxHeartbeats 4000000 in
theorem away_11_ttf (m : ModD) (f : FuncD) (frm ka kb : Nat) (to c n : Int) (hf : frm < f.code.length) (hx : nthX f.code frm = ⟨11, ((ka : Nat) : Int), ((kb : Nat) : Int), c, n⟩) (hl : f.code.length * 40 ≤ 140737488351232) (g nr cp : Nat) (r : List Sp) (hr : r.length = nr) (hc : nr ≤ cp) (hcp : cp ≤ maxLen) (sa : Sp) (ha : r[ka]? = some sa) (sb : Sp) (hb : r[kb]? = some sb) (hn : In64 n) (hm : 0 ≤ f.words ∧ f.words ≤ 4096) (hwk : wordsOk n f.words = true) (hmk : sb.meetOk (wordsS n f.words) = true) (hto : (to == n) = false) (w : World) (hI : InsAt w w.heap.size f.ca f.code) (hR : RowS w g cp r) :
    Calls Tryd.prog 29 #[m.val, f.val, .int .i64 frm, .int .i64 to, .slice (some ⟨g, 0, none⟩) nr cp] w (AwayOk g cp nr (some ((r.set kb (sb.meet (wordsS n f.words))).set ka Sp.all)) w) := by
  obtain ⟨cb, co, hca, hcb, hcc⟩ := hI (by omega)
  have x0 := hcc frm hf 0 (by omega)
  have x1 := hcc frm hf 1 (by omega)
  have x2 := hcc frm hf 2 (by omega)
  have x3 := hcc frm hf 3 (by omega)
  have x4 := hcc frm hf 4 (by omega)
  simp only [hx, insV, Nat.add_zero] at x0 x1 x2 x3 x4
  obtain ⟨nm, pa, pc, ps, rg, wd, ca, cc, cd⟩ := f
  simp only at hca hf hl hx hm hwk ⊢
  simp only at hmk
  subst hca
  obtain ⟨hka, ya0, ya1, fa0, fa1⟩ := hR.cells4 ha
  have hna : ((ka : Nat) : Int) < (nr : Int) := by omega
  obtain ⟨hkb, yb0, yb1, fb0, fb1⟩ := hR.cells4 hb
  have hnb : ((kb : Nat) : Int) < (nr : Int) := by omega
  have lg := hR.lt
  have hfr : ((frm : Nat) : Int) < (cd.length : Int) := by omega
  unfold maxLen at hcp
  have HR := Lib.hid hR
  clear hcc hx hR
  go_enter Tryd.func29, Tryd.ntmps29
  go_wp2_with fail
  generalize hW : ((((w.alloc (.cells #[.slice m.ta m.ths.length m.tc, .slice m.fa m.funcs.length m.fc] 25)).alloc (.cells #[.string nm, .slice pa ps.length pc, .int .i64 rg, .int .i64 wd, .slice (some ⟨cb, co, none⟩) cd.length cc] 48)).alloc (.cells #[.slice (some ⟨g, 0, none⟩) nr cp] 26)).alloc (.cells #[.int .i64 11, .int .i64 ((ka : Nat) : Int), .int .i64 ((kb : Nat) : Int), .int .i64 c, .int .i64 n] 65)) = W
  have aw : AwW w W g nr cp r ⟨11, ka, kb, c, n⟩ wd (.slice m.fa m.funcs.length m.fc) := by
    rw [← hW]; exact AwW.new (x := ⟨11, ka, kb, c, n⟩) HR.out _ _ _ _ _ _ _ _ _
  clear hW x0 x1 x2 x3 x4
  have hsz := aw.size
  go_at_call 57
  refine (wordsP n wd hn hm _).mono ?_
  rintro e w1 ⟨⟨a1, rfl, ha1⟩, hb1⟩
  rw [hwk] at ha1 ⊢
  obtain rfl := ha1 rfl
  clear ha1
  have aw1 := AwW.alloc (AwW.below aw hb1) (.cells #[.int .i64 (wordsS n wd).lo, .int .i64 (wordsS n wd).hi] 34)
  have f2 := aw1.x2
  have f0 := aw1.x0
  clear hb1
  go_wp2_with fail
  go_at_call 53
  refine (meetAw (wordsS n wd) sb kb g nr cp r hr (by unfold maxLen; omega) hc hb w _ _ _ _ aw1).mono ?_
  rintro e w2 ⟨rfl, aw2⟩
  rw [hmk]
  have e0 := aw2.x0
  have e1 := aw2.x1
  have eb := aw2.rb
  have hrl : (r.set kb (sb.meet (wordsS n wd))).length = nr := by simp [hr]
  have hat : ∃ s, (r.set kb (sb.meet (wordsS n wd)))[ka]? = some s := ⟨_, List.getElem?_eq_getElem (by simp; omega)⟩
  clear aw aw1 f0 f2
  go_wp2
  have HS : ∀ w', (∃ r', r'.length = nr ∧ AwW w w' g nr cp r' ⟨11, ka, kb, c, n⟩ wd (.slice m.fa m.funcs.length m.fc)) → (w'.cell? ⟨w.heap.size + 1 + 1 + 1, 1, none⟩ = some (.int .i64 ka) ∧ w'.cell? ⟨w.heap.size + 1 + 1, 0, none⟩ = some (.slice (some ⟨g, 0, none⟩) nr cp)) ∧ ∃ r', r'.length = nr ∧ AwW w w' g nr cp r' ⟨11, ka, kb, c, n⟩ wd (.slice m.fa m.funcs.length m.fc) := fun w' ⟨r', hr', h⟩ => ⟨⟨h.x1, h.rb⟩, r', hr', h⟩
  refine wp_region_held_drew (S := (fun w' => (w'.cell? ⟨w.heap.size + 1 + 1 + 1, 1, none⟩ = some (.int .i64 ka) ∧ w'.cell? ⟨w.heap.size + 1 + 1, 0, none⟩ = some (.slice (some ⟨g, 0, none⟩) nr cp)) ∧ ∃ r', r'.length = nr ∧ AwW w w' g nr cp r' ⟨11, ka, kb, c, n⟩ wd (.slice m.fa m.funcs.length m.fc))) (by kernel_rfl) ?_ (fun hHeld => ?_)
  · (exact HS _ ⟨_, hrl, aw2.drew⟩)
  iterate 3
    refine wpAnyH_nx (v := ?_) rfl rfl (by kernel_rfl) (by kernel_rfl) (by kernel_rfl) (fun _ _ _ h => h) (Or.inl ⟨by rfl, ?_⟩) (by assumption) ?_
    rotate_left
    · (intro w' hSw; (try dsimp only at hSw); go_simp <;> with_reducible rfl)
    (try simp only [Act.put, List.setIfInBounds_toArray, List.set_cons_zero, List.set_cons_succ])
  refine wpAnyH_ready (rs := [3]) (by kernel_rfl) (by simp) ?_
  refine AllReadyH.cons rfl (fun K hK => ?_) AllReadyH.nil
  go_simp; go_at_call 58; refine (allP _).mono ?_; rintro e w3 ⟨rfl, hb3⟩; go_wp2_with fail; have hs3 := hb3.size; have aw3 := AwW.below aw2.drew hb3; obtain ⟨sx3, hsx3⟩ := hat; obtain ⟨hka3, g0, g1, h0, h1⟩ := aw3.row.cells4 hsx3
  refine hK.out _ _ ?_ (fun hHeld => ?_)
  · (exact HS _ ⟨_, hrl, aw3⟩)
  clear hK K
  (try simp only [Act.put, List.setIfInBounds_toArray, List.set_cons_zero, List.set_cons_succ])
  refine wpAnyH_take (i := 4) (v := ?_) rfl (by kernel_rfl) (by kernel_rfl) (by kernel_rfl) (fun _ _ _ h => h) (Or.inl ⟨by rfl, ?_⟩) (by assumption) ?_
  rotate_left
  · (intro w' hSw; (try dsimp only at hSw); go_simp <;> with_reducible rfl)
  (try simp only [Act.put, List.setIfInBounds_toArray, List.set_cons_zero, List.set_cons_succ])
  refine wpAnyH_ready (rs := [5]) (by kernel_rfl) (by simp) ?_
  refine AllReadyH.cons rfl (fun K hK => ?_) AllReadyH.nil
  go_simp
  refine hK.out _ _ ?_ (fun hHeld => ?_)
  · (exact HS _ ⟨_, by simp [hrl], AwW.put aw3 hka3 Sp.all⟩)
  clear hK K
  (try simp only [Act.put, List.setIfInBounds_toArray, List.set_cons_zero, List.set_cons_succ])
  refine wpAnyH_done (by kernel_rfl) ?_ _
  have fin := aw3.put hka3 Sp.all
  go_wp2
  refine ret_of ?_ rfl
  refine ⟨_, by simp [results, Tryd.results29, go_sem] <;> rfl, rfl, ⟨_, fin.row, by simp [hr], fun _ h => Option.some.inj h⟩, fin.gr⟩
set_option maxHeartbeats 4000000 in
theorem away_11_tft (m : ModD) (f : FuncD) (frm ka kb : Nat) (to c n : Int) (hf : frm < f.code.length) (hx : nthX f.code frm = ⟨11, ((ka : Nat) : Int), ((kb : Nat) : Int), c, n⟩) (hl : f.code.length * 40 ≤ 140737488351232) (g nr cp : Nat) (r : List Sp) (hr : r.length = nr) (hc : nr ≤ cp) (hcp : cp ≤ maxLen) (sa : Sp) (ha : r[ka]? = some sa) (sb : Sp) (hb : r[kb]? = some sb) (hn : In64 n) (hm : 0 ≤ f.words ∧ f.words ≤ 4096) (hwk : wordsOk n f.words = true) (hmk : sb.meetOk (wordsS n f.words) = false) (hto : (to == n) = true) (w : World) (hI : InsAt w w.heap.size f.ca f.code) (hR : RowS w g cp r) :
    Calls Tryd.prog 29 #[m.val, f.val, .int .i64 frm, .int .i64 to, .slice (some ⟨g, 0, none⟩) nr cp] w (AwayOk g cp nr none w) := by
  obtain ⟨cb, co, hca, hcb, hcc⟩ := hI (by omega)
  have x0 := hcc frm hf 0 (by omega)
  have x1 := hcc frm hf 1 (by omega)
  have x2 := hcc frm hf 2 (by omega)
  have x3 := hcc frm hf 3 (by omega)
  have x4 := hcc frm hf 4 (by omega)
  simp only [hx, insV, Nat.add_zero] at x0 x1 x2 x3 x4
  obtain ⟨nm, pa, pc, ps, rg, wd, ca, cc, cd⟩ := f
  simp only at hca hf hl hx hm hwk ⊢
  simp only at hmk
  subst hca
  obtain ⟨hka, ya0, ya1, fa0, fa1⟩ := hR.cells4 ha
  have hna : ((ka : Nat) : Int) < (nr : Int) := by omega
  obtain ⟨hkb, yb0, yb1, fb0, fb1⟩ := hR.cells4 hb
  have hnb : ((kb : Nat) : Int) < (nr : Int) := by omega
  have lg := hR.lt
  have hfr : ((frm : Nat) : Int) < (cd.length : Int) := by omega
  unfold maxLen at hcp
  have HR := Lib.hid hR
  clear hcc hx hR
  go_enter Tryd.func29, Tryd.ntmps29
  go_wp2_with fail
  generalize hW : ((((w.alloc (.cells #[.slice m.ta m.ths.length m.tc, .slice m.fa m.funcs.length m.fc] 25)).alloc (.cells #[.string nm, .slice pa ps.length pc, .int .i64 rg, .int .i64 wd, .slice (some ⟨cb, co, none⟩) cd.length cc] 48)).alloc (.cells #[.slice (some ⟨g, 0, none⟩) nr cp] 26)).alloc (.cells #[.int .i64 11, .int .i64 ((ka : Nat) : Int), .int .i64 ((kb : Nat) : Int), .int .i64 c, .int .i64 n] 65)) = W
  have aw : AwW w W g nr cp r ⟨11, ka, kb, c, n⟩ wd (.slice m.fa m.funcs.length m.fc) := by
    rw [← hW]; exact AwW.new (x := ⟨11, ka, kb, c, n⟩) HR.out _ _ _ _ _ _ _ _ _
  clear hW x0 x1 x2 x3 x4
  have hsz := aw.size
  go_at_call 57
  refine (wordsP n wd hn hm _).mono ?_
  rintro e w1 ⟨⟨a1, rfl, ha1⟩, hb1⟩
  rw [hwk] at ha1 ⊢
  obtain rfl := ha1 rfl
  clear ha1
  have aw1 := AwW.alloc (AwW.below aw hb1) (.cells #[.int .i64 (wordsS n wd).lo, .int .i64 (wordsS n wd).hi] 34)
  have f2 := aw1.x2
  have f0 := aw1.x0
  clear hb1
  go_wp2_with fail
  go_at_call 53
  refine (meetAw (wordsS n wd) sb kb g nr cp r hr (by unfold maxLen; omega) hc hb w _ _ _ _ aw1).mono ?_
  rintro e w2 ⟨rfl, aw2⟩
  rw [hmk]
  have e0 := aw2.x0
  have e1 := aw2.x1
  have eb := aw2.rb
  clear aw aw1 f0 f2
  go_wp2
  refine ret_of ?_ rfl
  refine ⟨_, by simp [results, Tryd.results29, go_sem] <;> rfl, rfl, ⟨_, aw2.row, by simp [hr], fun _ h => by cases h⟩, aw2.gr⟩
set_option maxHeartbeats 4000000 in
theorem away_11_tff (m : ModD) (f : FuncD) (frm ka kb : Nat) (to c n : Int) (hf : frm < f.code.length) (hx : nthX f.code frm = ⟨11, ((ka : Nat) : Int), ((kb : Nat) : Int), c, n⟩) (hl : f.code.length * 40 ≤ 140737488351232) (g nr cp : Nat) (r : List Sp) (hr : r.length = nr) (hc : nr ≤ cp) (hcp : cp ≤ maxLen) (sa : Sp) (ha : r[ka]? = some sa) (sb : Sp) (hb : r[kb]? = some sb) (hn : In64 n) (hm : 0 ≤ f.words ∧ f.words ≤ 4096) (hwk : wordsOk n f.words = true) (hmk : sb.meetOk (wordsS n f.words) = false) (hto : (to == n) = false) (w : World) (hI : InsAt w w.heap.size f.ca f.code) (hR : RowS w g cp r) :
    Calls Tryd.prog 29 #[m.val, f.val, .int .i64 frm, .int .i64 to, .slice (some ⟨g, 0, none⟩) nr cp] w (AwayOk g cp nr none w) := by
  obtain ⟨cb, co, hca, hcb, hcc⟩ := hI (by omega)
  have x0 := hcc frm hf 0 (by omega)
  have x1 := hcc frm hf 1 (by omega)
  have x2 := hcc frm hf 2 (by omega)
  have x3 := hcc frm hf 3 (by omega)
  have x4 := hcc frm hf 4 (by omega)
  simp only [hx, insV, Nat.add_zero] at x0 x1 x2 x3 x4
  obtain ⟨nm, pa, pc, ps, rg, wd, ca, cc, cd⟩ := f
  simp only at hca hf hl hx hm hwk ⊢
  simp only at hmk
  subst hca
  obtain ⟨hka, ya0, ya1, fa0, fa1⟩ := hR.cells4 ha
  have hna : ((ka : Nat) : Int) < (nr : Int) := by omega
  obtain ⟨hkb, yb0, yb1, fb0, fb1⟩ := hR.cells4 hb
  have hnb : ((kb : Nat) : Int) < (nr : Int) := by omega
  have lg := hR.lt
  have hfr : ((frm : Nat) : Int) < (cd.length : Int) := by omega
  unfold maxLen at hcp
  have HR := Lib.hid hR
  clear hcc hx hR
  go_enter Tryd.func29, Tryd.ntmps29
  go_wp2_with fail
  generalize hW : ((((w.alloc (.cells #[.slice m.ta m.ths.length m.tc, .slice m.fa m.funcs.length m.fc] 25)).alloc (.cells #[.string nm, .slice pa ps.length pc, .int .i64 rg, .int .i64 wd, .slice (some ⟨cb, co, none⟩) cd.length cc] 48)).alloc (.cells #[.slice (some ⟨g, 0, none⟩) nr cp] 26)).alloc (.cells #[.int .i64 11, .int .i64 ((ka : Nat) : Int), .int .i64 ((kb : Nat) : Int), .int .i64 c, .int .i64 n] 65)) = W
  have aw : AwW w W g nr cp r ⟨11, ka, kb, c, n⟩ wd (.slice m.fa m.funcs.length m.fc) := by
    rw [← hW]; exact AwW.new (x := ⟨11, ka, kb, c, n⟩) HR.out _ _ _ _ _ _ _ _ _
  clear hW x0 x1 x2 x3 x4
  have hsz := aw.size
  go_at_call 57
  refine (wordsP n wd hn hm _).mono ?_
  rintro e w1 ⟨⟨a1, rfl, ha1⟩, hb1⟩
  rw [hwk] at ha1 ⊢
  obtain rfl := ha1 rfl
  clear ha1
  have aw1 := AwW.alloc (AwW.below aw hb1) (.cells #[.int .i64 (wordsS n wd).lo, .int .i64 (wordsS n wd).hi] 34)
  have f2 := aw1.x2
  have f0 := aw1.x0
  clear hb1
  go_wp2_with fail
  go_at_call 53
  refine (meetAw (wordsS n wd) sb kb g nr cp r hr (by unfold maxLen; omega) hc hb w _ _ _ _ aw1).mono ?_
  rintro e w2 ⟨rfl, aw2⟩
  rw [hmk]
  have e0 := aw2.x0
  have e1 := aw2.x1
  have eb := aw2.rb
  clear aw aw1 f0 f2
  go_wp2
  refine ret_of ?_ rfl
  refine ⟨_, by simp [results, Tryd.results29, go_sem] <;> rfl, rfl, ⟨_, aw2.row, by simp [hr], fun _ h => by cases h⟩, aw2.gr⟩
set_option maxHeartbeats 4000000 in
theorem away_11_fft (m : ModD) (f : FuncD) (frm ka kb : Nat) (to c n : Int) (hf : frm < f.code.length) (hx : nthX f.code frm = ⟨11, ((ka : Nat) : Int), ((kb : Nat) : Int), c, n⟩) (hl : f.code.length * 40 ≤ 140737488351232) (g nr cp : Nat) (r : List Sp) (hr : r.length = nr) (hc : nr ≤ cp) (hcp : cp ≤ maxLen) (sa : Sp) (ha : r[ka]? = some sa) (sb : Sp) (hb : r[kb]? = some sb) (hn : In64 n) (hm : 0 ≤ f.words ∧ f.words ≤ 4096) (hwk : wordsOk n f.words = false) (hto : (to == n) = true) (w : World) (hI : InsAt w w.heap.size f.ca f.code) (hR : RowS w g cp r) :
    Calls Tryd.prog 29 #[m.val, f.val, .int .i64 frm, .int .i64 to, .slice (some ⟨g, 0, none⟩) nr cp] w (AwayOk g cp nr none w) := by
  obtain ⟨cb, co, hca, hcb, hcc⟩ := hI (by omega)
  have x0 := hcc frm hf 0 (by omega)
  have x1 := hcc frm hf 1 (by omega)
  have x2 := hcc frm hf 2 (by omega)
  have x3 := hcc frm hf 3 (by omega)
  have x4 := hcc frm hf 4 (by omega)
  simp only [hx, insV, Nat.add_zero] at x0 x1 x2 x3 x4
  obtain ⟨nm, pa, pc, ps, rg, wd, ca, cc, cd⟩ := f
  simp only at hca hf hl hx hm hwk ⊢
  subst hca
  obtain ⟨hka, ya0, ya1, fa0, fa1⟩ := hR.cells4 ha
  have hna : ((ka : Nat) : Int) < (nr : Int) := by omega
  obtain ⟨hkb, yb0, yb1, fb0, fb1⟩ := hR.cells4 hb
  have hnb : ((kb : Nat) : Int) < (nr : Int) := by omega
  have lg := hR.lt
  have hfr : ((frm : Nat) : Int) < (cd.length : Int) := by omega
  unfold maxLen at hcp
  have HR := Lib.hid hR
  clear hcc hx hR
  go_enter Tryd.func29, Tryd.ntmps29
  go_wp2_with fail
  generalize hW : ((((w.alloc (.cells #[.slice m.ta m.ths.length m.tc, .slice m.fa m.funcs.length m.fc] 25)).alloc (.cells #[.string nm, .slice pa ps.length pc, .int .i64 rg, .int .i64 wd, .slice (some ⟨cb, co, none⟩) cd.length cc] 48)).alloc (.cells #[.slice (some ⟨g, 0, none⟩) nr cp] 26)).alloc (.cells #[.int .i64 11, .int .i64 ((ka : Nat) : Int), .int .i64 ((kb : Nat) : Int), .int .i64 c, .int .i64 n] 65)) = W
  have aw : AwW w W g nr cp r ⟨11, ka, kb, c, n⟩ wd (.slice m.fa m.funcs.length m.fc) := by
    rw [← hW]; exact AwW.new (x := ⟨11, ka, kb, c, n⟩) HR.out _ _ _ _ _ _ _ _ _
  clear hW x0 x1 x2 x3 x4
  have hsz := aw.size
  go_at_call 57
  refine (wordsP n wd hn hm _).mono ?_
  rintro e w1 ⟨⟨a1, rfl, ha1⟩, hb1⟩
  have aw1 := AwW.alloc (AwW.below aw hb1) (.cells #[.int .i64 a1.lo, .int .i64 a1.hi] 34)
  clear ha1
  rw [hwk]
  go_wp2
  refine ret_of ?_ rfl
  refine ⟨_, by simp [results, Tryd.results29, go_sem] <;> rfl, rfl, ⟨_, aw1.row, by simp [hr], fun _ h => by cases h⟩, aw1.gr⟩
set_option maxHeartbeats 4000000 in
theorem away_11_fff (m : ModD) (f : FuncD) (frm ka kb : Nat) (to c n : Int) (hf : frm < f.code.length) (hx : nthX f.code frm = ⟨11, ((ka : Nat) : Int), ((kb : Nat) : Int), c, n⟩) (hl : f.code.length * 40 ≤ 140737488351232) (g nr cp : Nat) (r : List Sp) (hr : r.length = nr) (hc : nr ≤ cp) (hcp : cp ≤ maxLen) (sa : Sp) (ha : r[ka]? = some sa) (sb : Sp) (hb : r[kb]? = some sb) (hn : In64 n) (hm : 0 ≤ f.words ∧ f.words ≤ 4096) (hwk : wordsOk n f.words = false) (hto : (to == n) = false) (w : World) (hI : InsAt w w.heap.size f.ca f.code) (hR : RowS w g cp r) :
    Calls Tryd.prog 29 #[m.val, f.val, .int .i64 frm, .int .i64 to, .slice (some ⟨g, 0, none⟩) nr cp] w (AwayOk g cp nr none w) := by
  obtain ⟨cb, co, hca, hcb, hcc⟩ := hI (by omega)
  have x0 := hcc frm hf 0 (by omega)
  have x1 := hcc frm hf 1 (by omega)
  have x2 := hcc frm hf 2 (by omega)
  have x3 := hcc frm hf 3 (by omega)
  have x4 := hcc frm hf 4 (by omega)
  simp only [hx, insV, Nat.add_zero] at x0 x1 x2 x3 x4
  obtain ⟨nm, pa, pc, ps, rg, wd, ca, cc, cd⟩ := f
  simp only at hca hf hl hx hm hwk ⊢
  subst hca
  obtain ⟨hka, ya0, ya1, fa0, fa1⟩ := hR.cells4 ha
  have hna : ((ka : Nat) : Int) < (nr : Int) := by omega
  obtain ⟨hkb, yb0, yb1, fb0, fb1⟩ := hR.cells4 hb
  have hnb : ((kb : Nat) : Int) < (nr : Int) := by omega
  have lg := hR.lt
  have hfr : ((frm : Nat) : Int) < (cd.length : Int) := by omega
  unfold maxLen at hcp
  have HR := Lib.hid hR
  clear hcc hx hR
  go_enter Tryd.func29, Tryd.ntmps29
  go_wp2_with fail
  generalize hW : ((((w.alloc (.cells #[.slice m.ta m.ths.length m.tc, .slice m.fa m.funcs.length m.fc] 25)).alloc (.cells #[.string nm, .slice pa ps.length pc, .int .i64 rg, .int .i64 wd, .slice (some ⟨cb, co, none⟩) cd.length cc] 48)).alloc (.cells #[.slice (some ⟨g, 0, none⟩) nr cp] 26)).alloc (.cells #[.int .i64 11, .int .i64 ((ka : Nat) : Int), .int .i64 ((kb : Nat) : Int), .int .i64 c, .int .i64 n] 65)) = W
  have aw : AwW w W g nr cp r ⟨11, ka, kb, c, n⟩ wd (.slice m.fa m.funcs.length m.fc) := by
    rw [← hW]; exact AwW.new (x := ⟨11, ka, kb, c, n⟩) HR.out _ _ _ _ _ _ _ _ _
  clear hW x0 x1 x2 x3 x4
  have hsz := aw.size
  go_at_call 57
  refine (wordsP n wd hn hm _).mono ?_
  rintro e w1 ⟨⟨a1, rfl, ha1⟩, hb1⟩
  have aw1 := AwW.alloc (AwW.below aw hb1) (.cells #[.int .i64 a1.lo, .int .i64 a1.hi] 34)
  clear ha1
  rw [hwk]
  go_wp2
  refine ret_of ?_ rfl
  refine ⟨_, by simp [results, Tryd.results29, go_sem] <;> rfl, rfl, ⟨_, aw1.row, by simp [hr], fun _ h => by cases h⟩, aw1.gr⟩
end Go.Proofs.YtddobhneplfddaaDoor

namespace Go.Proofs.YtddobhneplfddaaDoor
set_option maxRecDepth 100000
open Go.RowKit
set_option linter.unusedSimpArgs false
set_option linter.unusedVariables false
theorem cellsN_set (l : List Nat) (k v : Nat) : cellsN (l.set k v) = (cellsN l).setIfInBounds k (.int .i64 (v : Int)) := by
  simp [cellsN, List.map_set]
theorem has_same {L : Lay} {sb n : Nat} {s t : StD} (h : t.ins = s.ins) (k : Nat) : L.has sb n t k ↔ L.has sb n s k := by
  unfold Lay.has; rw [h]
namespace StP
variable {W W' : World} {B n R sb : Nat} {L : Lay} {s : StD}
theorem ne_ca (h : StP W B n R sb L s) {i : Nat} (hi : i < n) : sb ≠ L.ca i ∧ L.inb ≠ L.ca i ∧ L.chb ≠ L.ca i ∧ L.mkb ≠ L.ca i ∧ L.jnb ≠ L.ca i ∧ ∀ j l, s.ins.getD j none = some l → L.ga j ≠ L.ca i :=
  ⟨whl_apart h.st (h.cnts i hi) (by decide), whl_apart h.ins (h.cnts i hi) (by decide), whl_apart h.chs (h.cnts i hi) (by decide), whl_apart h.mks (h.cnts i hi) (by decide), fun e => h.apart i hi e.symm, fun j l hl => by
    obtain ⟨cur, hw⟩ := row_whl (h.rows j l hl).1
    exact whl_apart hw (h.cnts i hi) (by decide)⟩
theorem setCnt (h : StP W B n R sb L s) (hlc : s.changes.length = n) {i : Nat} (hi : i < n) (k v : Nat) : StP (W.setCell ⟨L.ca i, k, none⟩ (.int .i64 (v : Int))) B n R sb L { s with changes := s.changes.set i ((s.changes.getD i []).set k v) } := by
  obtain ⟨n1, n2, n3, n4, n5, n6⟩ := h.ne_ca hi
  refine ⟨h.st.far n1 _, h.ins.far n2 _, h.chs.far n3 _, h.mks.far n4 _, h.jns.far n5 _, fun j l hl => ?_, fun j hj => ?_, h.apart, h.ca, h.ga, h.old⟩
  · obtain ⟨hr, hc⟩ := h.rows j l hl
    exact ⟨hr.far (n6 j l hl) _, hc⟩
  · simp only
    rw [getD_set]
    by_cases e : i = j
    · subst e
      rw [if_pos ⟨rfl, by omega⟩, cellsN_set]
      exact (h.cnts i hi).put k _
    · rw [if_neg (fun q => e q.1)]
      exact (h.cnts j hj).far (fun q => e (h.ca j i hj hi q).symm) _
theorem ne_jn (h : StP W B n R sb L s) : sb ≠ L.jnb ∧ L.inb ≠ L.jnb ∧ L.chb ≠ L.jnb ∧ L.mkb ≠ L.jnb ∧ ∀ j l, s.ins.getD j none = some l → L.ga j ≠ L.jnb :=
  ⟨whl_apart h.st h.jns (by decide), whl_apart h.ins h.jns (by decide), whl_apart h.chs h.jns (by decide), whl_apart h.mks h.jns (by decide), fun j l hl => by
    obtain ⟨cur, hw⟩ := row_whl (h.rows j l hl).1
    exact whl_apart hw h.jns (by decide)⟩
theorem setJoin (h : StP W B n R sb L s) (i v : Nat) : StP (W.setCell ⟨L.jnb, i, none⟩ (.int .i64 (v : Int))) B n R sb L { s with joined := s.joined.set i v } := by
  obtain ⟨n1, n2, n3, n4, n5⟩ := h.ne_jn
  refine ⟨h.st.far n1 _, h.ins.far n2 _, h.chs.far n3 _, h.mks.far n4 _, ?_, fun j l hl => ?_, fun j hj => (h.cnts j hj).far (h.apart j hj) _, h.apart, h.ca, h.ga, h.old⟩
  · simp only
    rw [cellsN_set]
    exact h.jns.put i _
  · obtain ⟨hr, hc⟩ := h.rows j l hl
    exact ⟨hr.far (n5 j l hl) _, hc⟩
theorem ne_mk (h : StP W B n R sb L s) : sb ≠ L.mkb ∧ L.inb ≠ L.mkb ∧ L.chb ≠ L.mkb ∧ L.jnb ≠ L.mkb ∧ (∀ j, j < n → L.ca j ≠ L.mkb) ∧ ∀ j l, s.ins.getD j none = some l → L.ga j ≠ L.mkb :=
  ⟨whl_apart h.st h.mks (by decide), whl_apart h.ins h.mks (by decide), whl_apart h.chs h.mks (by decide), whl_apart h.jns h.mks (by decide), fun j hj => whl_apart (h.cnts j hj) h.mks (by decide), fun j l hl => by
    obtain ⟨cur, hw⟩ := row_whl (h.rows j l hl).1
    exact whl_apart hw h.mks (by decide)⟩
theorem setMark (h : StP W B n R sb L s) (i : Nat) (b : Bool) : StP (W.setCell ⟨L.mkb, i, none⟩ (.bool b)) B n R sb L { s with marked := s.marked.set i b } := by
  obtain ⟨n1, n2, n3, n4, n5, n6⟩ := h.ne_mk
  refine ⟨h.st.far n1 _, h.ins.far n2 _, h.chs.far n3 _, ?_, h.jns.far n4 _, fun j l hl => ?_, fun j hj => (h.cnts j hj).far (n5 j hj) _, h.apart, h.ca, h.ga, h.old⟩
  · simp only
    have := h.mks.put i (.bool b)
    simpa [List.map_set] using this
  · obtain ⟨hr, hc⟩ := h.rows j l hl
    exact ⟨hr.far (n6 j l hl) _, hc⟩
theorem ne_ga (h : StP W B n R sb L s) {i : Nat} {l : List Sp} (hl : s.ins.getD i none = some l) : sb ≠ L.ga i ∧ L.inb ≠ L.ga i ∧ L.chb ≠ L.ga i ∧ L.mkb ≠ L.ga i ∧ L.jnb ≠ L.ga i ∧ (∀ j, j < n → L.ca j ≠ L.ga i) ∧ ∀ j m, s.ins.getD j none = some m → j ≠ i → L.ga j ≠ L.ga i := by
  obtain ⟨cur, hw⟩ := row_whl (h.rows i l hl).1
  exact ⟨whl_apart h.st hw (by decide), whl_apart h.ins hw (by decide), whl_apart h.chs hw (by decide), whl_apart h.mks hw (by decide), whl_apart h.jns hw (by decide), fun j hj => whl_apart (h.cnts j hj) hw (by decide), fun j m hm hne e => hne (h.ga j i m l hm hl e)⟩
theorem setRow (h : StP W B n R sb L s) (hli : s.ins.length = n) {i : Nat} (hi : i < n) {l : List Sp} (hl : s.ins.getD i none = some l) {k : Nat} (hk : k < l.length) (a : Sp) :
    StP ((W.setCell ⟨L.ga i, k * 2, none⟩ (.int .i64 a.lo)).setCell ⟨L.ga i, k * 2 + 1, none⟩ (.int .i64 a.hi)) B n R sb L { s with ins := s.ins.set i (some (l.set k a)) } := by
  obtain ⟨n1, n2, n3, n4, n5, n6, n7⟩ := h.ne_ga hl
  have hin : ∀ j m, (s.ins.set i (some (l.set k a))).getD j none = some m → (j = i ∧ m = l.set k a) ∨ (j ≠ i ∧ s.ins.getD j none = some m) := fun j m hm => by
    rw [getD_set] at hm
    by_cases e : i = j
    · subst e; rw [if_pos ⟨rfl, by omega⟩] at hm; cases hm; exact .inl ⟨rfl, rfl⟩
    · rw [if_neg (fun q => e q.1)] at hm; exact .inr ⟨fun q => e q.symm, hm⟩
  have hex : ∀ j m, (s.ins.set i (some (l.set k a))).getD j none = some m → ∃ m', s.ins.getD j none = some m' := fun j m hm => by
    rcases hin j m hm with ⟨rfl, _⟩ | ⟨_, e⟩
    · exact ⟨_, hl⟩
    · exact ⟨_, e⟩
  refine ⟨(h.st.far n1 _).far n1 _, ?_, (h.chs.far n3 _).far n3 _, (h.mks.far n4 _).far n4 _, (h.jns.far n5 _).far n5 _, fun j m hm => ?_, fun j hj => ((h.cnts j hj).far (n6 j hj) _).far (n6 j hj) _, h.apart, h.ca, fun j j' m m' hm hm' e => ?_, fun q hq => ?_⟩
  · have e : (List.range n).map (inV L R { s with ins := s.ins.set i (some (l.set k a)) }) = (List.range n).map (inV L R s) := by
      apply List.map_congr_left
      intro j _
      unfold inV
      simp only
      rw [getD_set]
      by_cases e : i = j
      · subst e; rw [if_pos ⟨rfl, by omega⟩, hl]
      · rw [if_neg (fun q => e q.1)]
    rw [e]
    exact (h.ins.far n2 _).far n2 _
  · rcases hin j m hm with ⟨rfl, rfl⟩ | ⟨hne, e⟩
    · obtain ⟨hr, hc⟩ := h.rows j l hl
      exact ⟨hr.set hk a, hc⟩
    · obtain ⟨hr, hc⟩ := h.rows j m e
      exact ⟨(hr.far (n7 j m e hne) _).far (n7 j m e hne) _, hc⟩
  · obtain ⟨u, hu⟩ := hex j m hm
    obtain ⟨u', hu'⟩ := hex j' m' hm'
    exact h.ga j j' u u' hu hu' e
  · refine h.old q ?_
    rcases hq with q | q | q | q | q | q | ⟨j, m, hm, e⟩
    · exact .inl q
    · exact .inr (.inl q)
    · exact .inr (.inr (.inl q))
    · exact .inr (.inr (.inr (.inl q)))
    · exact .inr (.inr (.inr (.inr (.inl q))))
    · exact .inr (.inr (.inr (.inr (.inr (.inl q)))))
    · obtain ⟨u, hu⟩ := hex j m hm
      exact .inr (.inr (.inr (.inr (.inr (.inr ⟨j, u, hu, e⟩)))))
def lay' (L : Lay) (i g c : Nat) : Lay := { L with ga := fun j => if j = i then g else L.ga j, cp := fun j => if j = i then c else L.cp j }
theorem setIns (h : StP W B n R sb L s) (hli : s.ins.length = n) {i : Nat} (hi : i < n) (hn : s.ins.getD i none = none) {g c : Nat} {nx : List Sp} (hr : RowE W g c nx) (hc : R ≤ c) (ht : c ≤ maxLen) (hg : ¬ L.has sb n s g) (hB : B ≤ g) :
    StP (W.setCell ⟨L.inb, i, none⟩ (.slice (some ⟨g, 0, none⟩) R c)) B n R sb (lay' L i g c) { s with ins := s.ins.set i (some nx) } := by
  have hin : ∀ j m, (s.ins.set i (some nx)).getD j none = some m → (j = i ∧ m = nx) ∨ (j ≠ i ∧ s.ins.getD j none = some m) := fun j m hm => by
    rw [getD_set] at hm
    by_cases e : i = j
    · subst e; rw [if_pos ⟨rfl, by omega⟩] at hm; cases hm; exact .inl ⟨rfl, rfl⟩
    · rw [if_neg (fun q => e q.1)] at hm; exact .inr ⟨fun q => e q.symm, hm⟩
  obtain ⟨cur, hw⟩ := row_whl hr
  have n1 := whl_apart h.st h.ins (by decide)
  have n3 := whl_apart h.chs h.ins (by decide)
  have n4 := whl_apart h.mks h.ins (by decide)
  have n5 := whl_apart h.jns h.ins (by decide)
  have n6 := whl_apart hw h.ins (by decide)
  have ga1 : ∀ j, j ≠ i → (lay' L i g c).ga j = L.ga j := fun j hj => if_neg hj
  have ga2 : (lay' L i g c).ga i = g := if_pos rfl
  have cp1 : ∀ j, j ≠ i → (lay' L i g c).cp j = L.cp j := fun j hj => if_neg hj
  have cp2 : (lay' L i g c).cp i = c := if_pos rfl
  refine ⟨h.st.far n1 _, ?_, h.chs.far n3 _, h.mks.far n4 _, h.jns.far n5 _, fun j m hm => ?_, fun j hj => (h.cnts j hj).far (whl_apart (h.cnts j hj) h.ins (by decide)) _, h.apart, h.ca, fun j j' m m' hm hm' e => ?_, fun q hq => ?_⟩
  · have e : ((List.range n).map (inV (lay' L i g c) R { s with ins := s.ins.set i (some nx) })) = ((List.range n).map (inV L R s)).set i (.slice (some ⟨g, 0, none⟩) R c) := by
      apply List.ext_getElem?
      intro j
      rw [List.getElem?_set, List.getElem?_map, List.getElem?_map]
      by_cases hj : j < n
      · rw [List.getElem?_range hj]
        by_cases e : i = j
        · subst e
          rw [if_pos rfl, if_pos (by simp; exact hj)]
          simp only [Option.map_some, inV]
          rw [getD_set, if_pos ⟨rfl, by omega⟩, ga2, cp2]
        · rw [if_neg e]
          simp only [Option.map_some, inV]
          rw [getD_set, if_neg (fun q => e q.1), ga1 j (fun q => e q.symm), cp1 j (fun q => e q.symm)]
      · rw [List.getElem?_eq_none (by simp; omega), if_neg (by omega)]
        rfl
    show Whl _ L.inb _ _
    rw [e]
    have := h.ins.put i (.slice (some ⟨g, 0, none⟩) R c)
    simpa using this
  · rcases hin j m hm with ⟨rfl, rfl⟩ | ⟨hne, e⟩
    · rw [ga2, cp2]; exact ⟨hr.far n6 _, hc, ht⟩
    · rw [ga1 j hne, cp1 j hne]
      obtain ⟨hr', hc'⟩ := h.rows j m e
      obtain ⟨cur', hw'⟩ := row_whl hr'
      exact ⟨hr'.far (whl_apart hw' h.ins (by decide)) _, hc'⟩
  · rcases hin j m hm with ⟨rfl, rfl⟩ | ⟨hne, e1⟩ <;> rcases hin j' m' hm' with ⟨rfl, rfl⟩ | ⟨hne', e2⟩
    · rfl
    · rw [ga2, ga1 j' hne'] at e
      exact absurd (.inr (.inr (.inr (.inr (.inr (.inr ⟨j', m', e2, e⟩)))))) hg
    · rw [ga2, ga1 j hne] at e
      exact absurd (.inr (.inr (.inr (.inr (.inr (.inr ⟨j, m, e1, e.symm⟩)))))) hg
    · rw [ga1 j hne, ga1 j' hne'] at e
      exact h.ga j j' m m' e1 e2 e
  · rcases hq with q | q | q | q | q | q | ⟨j, m, hm, e⟩
    · exact h.old _ (.inl q)
    · exact h.old _ (.inr (.inl q))
    · exact h.old _ (.inr (.inr (.inl q)))
    · exact h.old _ (.inr (.inr (.inr (.inl q))))
    · exact h.old _ (.inr (.inr (.inr (.inr (.inl q)))))
    · exact h.old _ (.inr (.inr (.inr (.inr (.inr (.inl q))))))
    · rcases hin j m hm with ⟨rfl, rfl⟩ | ⟨hne, e1⟩
      · rw [ga2] at e; omega
      · rw [ga1 j hne] at e
        exact h.old _ (.inr (.inr (.inr (.inr (.inr (.inr ⟨j, m, e1, e⟩))))))
end StP
end Go.Proofs.YtddobhneplfddaaDoor
