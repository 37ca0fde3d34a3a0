/-
  Layer 16 (bounds): StP, AwX, AwayK, AwayL, AwayI.
-/
import Derived.Test.YtddobhneplfddaaDoorRows
import Derived.Test.YtddobhneplfddaaDoorZ1
import Derived.Test.YtddobhneplfddaaDoorZ3
import Derived.Test.YtddobhneplfddaaDoorZ4
import Derived.Test.YtddobhneplfddaaDoorZ5
import Derived.BigQuiet
import Derived.BigRegion
import Derived.Carry
import Derived.Deep.DeepHandedRow
import Derived.Deep.DrawnRows
import Derived.Deep.Light
import Derived.Deep.QuietTactic
import Derived.Deep.RegionHeld3
import Derived.Deep.RegionLaw
import Derived.JoinedCond
import Derived.Lib.Hide
import Derived.LoopTactic
import Derived.OpenShut
import Derived.OpenVars
import Derived.Outline
import Derived.ProofKit
import Derived.WalkKit
import Derived.WalkLawsBesides
import Derived.WalkSpells
namespace Go.Proofs.YtddobhneplfddaaDoor
set_option maxRecDepth 100000
open Go.RowKit
set_option linter.unusedSimpArgs false
set_option linter.unusedVariables false
/-- Where the parts of the state lie. -/
structure Lay where
  inb : Nat
  chb : Nat
  mkb : Nat
  jnb : Nat
  ga : Nat → Nat
  cp : Nat → Nat
  ca : Nat → Nat
/-- Block g begins with these spans, and may be written, in the room of a slice and behind it. -/
def RowE (w : World) (g cp : Nat) (r : List Sp) : Prop := ∃ bc, cp ≤ bc ∧ RowS w g bc r
theorem RowS.toE {w : World} {g cp : Nat} {r : List Sp} (h : RowS w g cp r) : RowE w g cp r := ⟨cp, Nat.le_refl _, h⟩
namespace RowE
variable {w w' : World} {g cp : Nat} {r : List Sp}
theorem lt (h : RowE w g cp r) : g < w.heap.size := by obtain ⟨_, _, h⟩ := h; exact h.lt
theorem drew (h : RowE w g cp r) : RowE w.drew g cp r := h
theorem far (h : RowE w g cp r) {p : Addr} (hp : g ≠ p.block) (u : Value) : RowE (w.setCell p u) g cp r := by obtain ⟨bc, hc, h⟩ := h; exact ⟨bc, hc, h.far hp u⟩
theorem set (h : RowE w g cp r) {k : Nat} (hk : k < r.length) (a : Sp) : RowE ((w.setCell ⟨g, k * 2, none⟩ (.int .i64 a.lo)).setCell ⟨g, k * 2 + 1, none⟩ (.int .i64 a.hi)) g cp (r.set k a) := by obtain ⟨bc, hc, h⟩ := h; exact ⟨bc, hc, h.set hk a⟩
end RowE
def inV (L : Lay) (R : Nat) (s : StD) (i : Nat) : Value :=
  match s.ins.getD i none with
  | none => .slice none 0 0
  | some _ => .slice (some ⟨L.ga i, 0, none⟩) R (L.cp i)
def chV (L : Lay) (R : Nat) (i : Nat) : Value := .slice (some ⟨L.ca i, 0, none⟩) R R
def Lay.has (L : Lay) (sb n : Nat) (s : StD) (k : Nat) : Prop :=
  k = sb ∨ k = L.inb ∨ k = L.chb ∨ k = L.mkb ∨ k = L.jnb ∨ (∃ i, i < n ∧ k = L.ca i) ∨ ∃ i l, s.ins.getD i none = some l ∧ k = L.ga i
def cellsN (l : List Nat) : Array Value := (l.map fun (c : Nat) => Value.int .i64 (c : Int)).toArray
structure StP (W : World) (B n R sb : Nat) (L : Lay) (s : StD) : Prop where
  st : Whl W sb 69 #[.slice (some ⟨L.inb, 0, none⟩) n n, .slice (some ⟨L.chb, 0, none⟩) n n, .slice (some ⟨L.mkb, 0, none⟩) n n, .slice (some ⟨L.jnb, 0, none⟩) n n]
  ins : Whl W L.inb 26 ((List.range n).map (inV L R s)).toArray
  chs : Whl W L.chb 44 ((List.range n).map (chV L R)).toArray
  mks : Whl W L.mkb 4 (s.marked.map Value.bool).toArray
  jns : Whl W L.jnb 3 (cellsN s.joined)
  rows : ∀ i l, s.ins.getD i none = some l → RowE W (L.ga i) (L.cp i) l ∧ R ≤ L.cp i ∧ L.cp i ≤ maxLen
  cnts : ∀ i, i < n → Whl W (L.ca i) 3 (cellsN (s.changes.getD i []))
  apart : ∀ i, i < n → L.ca i ≠ L.jnb
  ca : ∀ i j, i < n → j < n → L.ca i = L.ca j → i = j
  ga : ∀ i j l m, s.ins.getD i none = some l → s.ins.getD j none = some m → L.ga i = L.ga j → i = j
  old : ∀ k, L.has sb n s k → B ≤ k
theorem whl_apart {W : World} {a b : Nat} {t u : TypeId} {cs ds : Array Value} (h : Whl W a t cs) (k : Whl W b u ds) (hne : t ≠ u) : a ≠ b := fun e => by
  subst e
  unfold Whl at h k
  rw [h] at k
  cases k
  exact hne rfl
theorem row_whl {W : World} {g cp : Nat} {r : List Sp} (h : RowE W g cp r) : ∃ cur, Whl W g 34 cur := by obtain ⟨_, _, h⟩ := h; exact ⟨h.choose, h.choose_spec.1⟩
namespace StP
variable {W W' : World} {B n R sb : Nat} {L : Lay} {s : StD}
theorem lt (h : StP W B n R sb L s) {k : Nat} (hk : L.has sb n s k) : k < W.heap.size := by
  rcases hk with rfl | rfl | rfl | rfl | rfl | ⟨i, hi, rfl⟩ | ⟨i, l, hl, rfl⟩
  · exact h.st.lt
  · exact h.ins.lt
  · exact h.chs.lt
  · exact h.mks.lt
  · exact h.jns.lt
  · exact (h.cnts i hi).lt
  · exact (h.rows i l hl).1.lt
/-- Another world in which these blocks are as they were. -/
theorem keep (h : StP W B n R sb L s) (hk : ∀ k, L.has sb n s k → W'.heap[k]? = W.heap[k]?) : StP W' B n R sb L s := by
  refine ⟨(hk _ (.inl rfl)).trans h.st, (hk _ (.inr (.inl rfl))).trans h.ins, (hk _ (.inr (.inr (.inl rfl)))).trans h.chs, (hk _ (.inr (.inr (.inr (.inl rfl))))).trans h.mks, (hk _ (.inr (.inr (.inr (.inr (.inl rfl)))))).trans h.jns, fun i l hl => ?_, fun i hi => (hk _ (.inr (.inr (.inr (.inr (.inr (.inl ⟨i, hi, rfl⟩))))))).trans (h.cnts i hi), h.apart, h.ca, h.ga, h.old⟩
  obtain ⟨⟨bc, hbc, cur, hw, hh⟩, hc⟩ := h.rows i l hl
  exact ⟨⟨bc, hbc, cur, (hk _ (.inr (.inr (.inr (.inr (.inr (.inr ⟨i, l, hl, rfl⟩))))))).trans hw, hh⟩, hc⟩
theorem below (h : StP W B n R sb L s) {H : Nat} (hb : Below H W W') (hH : ∀ k, L.has sb n s k → k < H) : StP W' B n R sb L s := h.keep fun k hk => hb.block k (hH k hk)
theorem below' (h : StP W B n R sb L s) (hb : Below W.heap.size W W') : StP W' B n R sb L s := h.below hb fun _ hk => h.lt hk
theorem alloc (h : StP W B n R sb L s) (o : Obj) : StP (W.alloc o) B n R sb L s := h.below' (below_alloc (Below.refl _ _) _)
theorem drew (h : StP W B n R sb L s) : StP W.drew B n R sb L s := h.keep fun _ _ => rfl
theorem drewN (h : StP W B n R sb L s) (k : Nat) : StP (W.drewN k) B n R sb L s := h.keep fun _ _ => rfl
theorem c0 (h : StP W B n R sb L s) : W.cell? ⟨sb, 0, none⟩ = some (.slice (some ⟨L.inb, 0, none⟩) n n) := h.st.cell 0
theorem c1 (h : StP W B n R sb L s) : W.cell? ⟨sb, 1, none⟩ = some (.slice (some ⟨L.chb, 0, none⟩) n n) := h.st.cell 1
theorem c2 (h : StP W B n R sb L s) : W.cell? ⟨sb, 2, none⟩ = some (.slice (some ⟨L.mkb, 0, none⟩) n n) := h.st.cell 2
theorem c3 (h : StP W B n R sb L s) : W.cell? ⟨sb, 3, none⟩ = some (.slice (some ⟨L.jnb, 0, none⟩) n n) := h.st.cell 3
theorem insC (h : StP W B n R sb L s) {i : Nat} (hi : i < n) : W.cell? ⟨L.inb, i, none⟩ = some (inV L R s i) := by
  rw [h.ins.cell]; simp [hi]
theorem chsC (h : StP W B n R sb L s) {i : Nat} (hi : i < n) : W.cell? ⟨L.chb, i, none⟩ = some (chV L R i) := by
  rw [h.chs.cell]; simp [hi]
theorem mksC (h : StP W B n R sb L s) {i : Nat} (hi : i < s.marked.length) : W.cell? ⟨L.mkb, i, none⟩ = some (.bool (s.marked.getD i false)) := by
  rw [h.mks.cell]; simp [hi, List.getD_eq_getElem?_getD]
theorem jnsC (h : StP W B n R sb L s) {i : Nat} (hi : i < s.joined.length) : W.cell? ⟨L.jnb, i, none⟩ = some (.int .i64 (s.joined.getD i 0 : Nat)) := by
  rw [h.jns.cell]; simp [cellsN, hi, List.getD_eq_getElem?_getD]
theorem cntC (h : StP W B n R sb L s) {i k : Nat} (hi : i < n) (hk : k < (s.changes.getD i []).length) : W.cell? ⟨L.ca i, k, none⟩ = some (.int .i64 ((s.changes.getD i []).getD k 0 : Nat)) := by
  rw [(h.cnts i hi).cell]
  generalize s.changes.getD i [] = l at *
  simp [cellsN, hk, List.getD_eq_getElem?_getD]
end StP
end Go.Proofs.YtddobhneplfddaaDoor

namespace Go.Proofs.YtddobhneplfddaaDoor
set_option maxRecDepth 100000
open Go.RowKit
set_option linter.unusedSimpArgs false
set_option linter.unusedVariables false
theorem gwCell {A B : World} {g : Nat} (h : A.grownBy B (some g)) {b : Nat} (hb : b < A.heap.size) (hg : b ≠ g) (o : Nat) : B.cell? ⟨b, o, none⟩ = A.cell? ⟨b, o, none⟩ := by
  rw [World.cell?, World.cell?, h.block b hb (fun e => hg (by cases e; rfl))]
namespace AwW
variable {w W W' : World} {g nr cp : Nat} {r : List Sp} {x : InsD} {wd : Int} {fv : Value}
theorem grown (h : AwW w W g nr cp r x wd fv) {r' : List Sp} (hR : RowS W' g cp r') (hg : W.grownBy W' (some g)) : AwW w W' g nr cp r' x wd fv := by
  have lg := h.lg
  have hs := h.size
  exact ⟨Nat.le_trans hs hg.size, by rw [gwCell hg (by omega) (by omega)]; exact h.x0, by rw [gwCell hg (by omega) (by omega)]; exact h.x1, by rw [gwCell hg (by omega) (by omega)]; exact h.x2, by rw [gwCell hg (by omega) (by omega)]; exact h.x3, by rw [gwCell hg (by omega) (by omega)]; exact h.x4, by rw [gwCell hg (by omega) (by omega)]; exact h.rb, by rw [gwCell hg (by omega) (by omega)]; exact h.wd, by rw [gwCell hg (by omega) (by omega)]; exact h.fs, lg, hR, gwTrans h.gr hg⟩
end AwW
/-- The inner function, called while away runs. -/
theorem meetAw (a s : Sp) (k g nr cp : Nat) (r : List Sp) (hr : r.length = nr) (hcp : cp ≤ maxLen) (hc : nr ≤ cp) (hs : r[k]? = some s) (w W : World) (x : InsD) (wd : Int) (fv : Value) (h : AwW w W g nr cp r x wd fv) :
    Calls Tryd.prog 53 #[.int .i64 (k : Int), .agg #[.int .i64 a.lo, .int .i64 a.hi], .pointer (some ⟨w.heap.size + 1 + 1, 0, none⟩)] W fun e w' => e = .returned (.bool (s.meetOk a)) ∧ AwW w w' g nr cp (r.set k (s.meet a)) x wd fv := by
  have lg := h.lg
  have hsz := h.size
  refine (meetC a s k g (w.heap.size + 1 + 1) nr cp r hr hcp hc hs W h.row h.rb (by omega) (by omega)).mono ?_
  rintro e w' ⟨rfl, h1, h2⟩
  exact ⟨rfl, h.grown h1 h2⟩
end Go.Proofs.YtddobhneplfddaaDoor

namespace Go.Proofs.YtddobhneplfddaaDoor
set_option maxRecDepth 100000
open Go.RowKit
set_option linter.unusedSimpArgs false
set_option linter.unusedVariables false
set_option maxHeartbeats 4000000 in
theorem away_15_wo_t (m : ModD) (f : FuncD) (frm ka : Nat) (to b c n : Int) (hf : frm < f.code.length) (hx : nthX f.code frm = ⟨15, ((ka : Nat) : Int), b, c, n⟩) (hl : f.code.length * 40 ≤ 140737488351232) (g nr cp : Nat) (r : List Sp) (hr : r.length = nr) (hc : nr ≤ cp) (hcp : cp ≤ maxLen) (sa : Sp) (ha : r[ka]? = some sa) (hone : (n == (frm : Int) + 1) = false) (hone' : (n != (frm : Int) + 1) = true) (hmk : wo0Ok sa = true) (hto : (to == n) = true) (w : World) (hI : InsAt w w.heap.size f.ca f.code) (hR : RowS w g cp r) :
    Calls Tryd.prog 29 #[m.val, f.val, .int .i64 frm, .int .i64 to, .slice (some ⟨g, 0, none⟩) nr cp] w (AwayOk g cp nr (some (r.set ka (wo0 sa))) w) := by
  obtain ⟨cb, co, hca, hcb, hcc⟩ := hI (by omega)
  have x0 := hcc frm hf 0 (by omega)
  have x1 := hcc frm hf 1 (by omega)
  have x2 := hcc frm hf 2 (by omega)
  have x3 := hcc frm hf 3 (by omega)
  have x4 := hcc frm hf 4 (by omega)
  simp only [hx, insV, Nat.add_zero] at x0 x1 x2 x3 x4
  obtain ⟨nm, pa, pc, ps, rg, wd, ca, cc, cd⟩ := f
  simp only at hca hf hl hx ⊢
  subst hca
  obtain ⟨hka, ya0, ya1, fa0, fa1⟩ := hR.cells4 ha
  have hna : ((ka : Nat) : Int) < (nr : Int) := by omega
  have lg := hR.lt
  have hfr : ((frm : Nat) : Int) < (cd.length : Int) := by omega
  unfold maxLen at hcp
  have HR := Lib.hid hR
  clear hcc hx hR
  go_enter Tryd.func29, Tryd.ntmps29
  go_wp2
  generalize hW : ((((w.alloc (.cells #[.slice m.ta m.ths.length m.tc, .slice m.fa m.funcs.length m.fc] 25)).alloc (.cells #[.string nm, .slice pa ps.length pc, .int .i64 rg, .int .i64 wd, .slice (some ⟨cb, co, none⟩) cd.length cc] 48)).alloc (.cells #[.slice (some ⟨g, 0, none⟩) nr cp] 26)).alloc (.cells #[.int .i64 15, .int .i64 ((ka : Nat) : Int), .int .i64 b, .int .i64 c, .int .i64 n] 65)) = W
  have aw : AwW w W g nr cp r ⟨15, ka, b, c, n⟩ wd (.slice m.fa m.funcs.length m.fc) := by
    rw [← hW]; exact AwW.new (x := ⟨15, ka, b, c, n⟩) HR.out _ _ _ _ _ _ _ _ _
  clear hW x0 x1 x2 x3 x4
  have hsz := aw.size
  have HS : ∀ w', (∃ r', AwW w w' g nr cp r' ⟨15, ka, b, c, n⟩ wd (.slice m.fa m.funcs.length m.fc)) → (w'.cell? ⟨w.heap.size + 1 + 1 + 1, 1, none⟩ = some (.int .i64 ka) ∧ w'.cell? ⟨w.heap.size + 1 + 1, 0, none⟩ = some (.slice (some ⟨g, 0, none⟩) nr cp)) ∧ ∃ r', AwW w w' g nr cp r' ⟨15, ka, b, c, n⟩ wd (.slice m.fa m.funcs.length m.fc) := fun w' ⟨r', h⟩ => ⟨⟨h.x1, h.rb⟩, r', h⟩
  obtain ⟨_, a0, a1, i0, i1⟩ := aw.row.cells4 ha
  refine wp_region_held_drew (S := (fun w' => (w'.cell? ⟨w.heap.size + 1 + 1 + 1, 1, none⟩ = some (.int .i64 ka) ∧ w'.cell? ⟨w.heap.size + 1 + 1, 0, none⟩ = some (.slice (some ⟨g, 0, none⟩) nr cp)) ∧ ∃ r', AwW w w' g nr cp r' ⟨15, ka, b, c, n⟩ wd (.slice m.fa m.funcs.length m.fc))) (by kernel_rfl) ?_ (fun hHeld => ?_)
  · (exact HS _ ⟨_, aw.drew⟩)
  refine wpAnyH_take (i := 0) (v := ?_) rfl (by kernel_rfl) (by kernel_rfl) (by kernel_rfl) (fun _ _ _ h => h) (Or.inl ⟨by rfl, ?_⟩) (by assumption) ?_
  rotate_left
  · (intro w' hSw; (try dsimp only at hSw); go_simp <;> with_reducible rfl)
  (try simp only [Act.put, List.setIfInBounds_toArray, List.set_cons_zero, List.set_cons_succ])
  refine wpAnyH_take (i := 1) (v := ?_) rfl (by kernel_rfl) (by kernel_rfl) (by kernel_rfl) (fun _ _ _ h => h) (Or.inl ⟨by rfl, ?_⟩) (by assumption) ?_
  rotate_left
  · (intro w' hSw; (try dsimp only at hSw); go_simp <;> with_reducible rfl)
  (try simp only [Act.put, List.setIfInBounds_toArray, List.set_cons_zero, List.set_cons_succ])
  refine wpAnyH_take (i := 2) (v := ?_) rfl (by kernel_rfl) (by kernel_rfl) (by kernel_rfl) (fun _ _ _ h => h) (Or.inl ⟨by rfl, ?_⟩) (by assumption) ?_
  rotate_left
  · (intro w' hSw; (try dsimp only at hSw); go_simp <;> with_reducible rfl)
  (try simp only [Act.put, List.setIfInBounds_toArray, List.set_cons_zero, List.set_cons_succ])
  refine wpAnyH_take (i := 3) (v := ?_) rfl (by kernel_rfl) (by kernel_rfl) (by kernel_rfl) (fun _ _ _ h => h) (Or.inl ⟨by rfl, ?_⟩) (by assumption) ?_
  rotate_left
  · (intro w' hSw; (try dsimp only at hSw); go_simp <;> with_reducible rfl)
  (try simp only [Act.put, List.setIfInBounds_toArray, List.set_cons_zero, List.set_cons_succ])
  refine wpAnyH_take (i := 4) (v := ?_) rfl (by kernel_rfl) (by kernel_rfl) (by kernel_rfl) (fun _ _ _ h => h) (Or.inl ⟨by rfl, ?_⟩) (by assumption) ?_
  rotate_left
  · (intro w' hSw; (try dsimp only at hSw); go_simp <;> with_reducible rfl)
  (try simp only [Act.put, List.setIfInBounds_toArray, List.set_cons_zero, List.set_cons_succ])
  refine wpAnyH_take (i := 5) (v := ?_) rfl (by kernel_rfl) (by kernel_rfl) (by kernel_rfl) (fun _ _ _ h => h) (Or.inl ⟨by rfl, ?_⟩) (by assumption) ?_
  rotate_left
  · (intro w' hSw; (try dsimp only at hSw); go_simp <;> with_reducible rfl)
  (try simp only [Act.put, List.setIfInBounds_toArray, List.set_cons_zero, List.set_cons_succ])
  refine wpAnyH_take (i := 6) (v := ?_) rfl (by kernel_rfl) (by kernel_rfl) (by kernel_rfl) (fun _ _ _ h => h) (Or.inl ⟨by rfl, ?_⟩) (by assumption) ?_
  rotate_left
  · (intro w' hSw; (try dsimp only at hSw); go_simp <;> with_reducible rfl)
  (try simp only [Act.put, List.setIfInBounds_toArray, List.set_cons_zero, List.set_cons_succ])
  refine wpAnyH_ready (rs := [7]) (by kernel_rfl) (by simp) ?_
  refine AllReadyH.cons rfl (fun K hK => ?_) AllReadyH.nil
  go_simp
  refine hK.out _ _ ?_ (fun hHeld => ?_)
  · (exact HS _ ⟨_, aw.drew⟩)
  clear hK K
  (try simp only [Act.put, List.setIfInBounds_toArray, List.set_cons_zero, List.set_cons_succ])
  refine wpAnyH_ready (rs := [8]) (by kernel_rfl) (by simp) ?_
  refine AllReadyH.cons rfl (fun K hK => ?_) AllReadyH.nil
  go_simp; go_at_call 56; refine (without0P sa _).mono ?_; rintro e w1 ⟨rfl, hb1⟩; go_wp2_with fail; have hs1 := hb1.size; have aw1 := AwW.below aw.drew hb1; obtain ⟨_, g0, g1, h0, h1⟩ := aw1.row.cells4 ha
  refine hK.out _ _ ?_ (fun hHeld => ?_)
  · (exact HS _ ⟨_, aw1⟩)
  clear hK K
  (try simp only [Act.put, List.setIfInBounds_toArray, List.set_cons_zero, List.set_cons_succ])
  refine wpAnyH_take (i := 9) (v := ?_) rfl (by kernel_rfl) (by kernel_rfl) (by kernel_rfl) (fun _ _ _ h => h) (Or.inl ⟨by rfl, ?_⟩) (by assumption) ?_
  rotate_left
  · (intro w' hSw; (try dsimp only at hSw); go_simp <;> with_reducible rfl)
  (try simp only [Act.put, List.setIfInBounds_toArray, List.set_cons_zero, List.set_cons_succ])
  refine wpAnyH_take (i := 10) (v := ?_) rfl (by kernel_rfl) (by kernel_rfl) (by kernel_rfl) (fun _ _ _ h => h) (Or.inl ⟨by rfl, ?_⟩) (by assumption) ?_
  rotate_left
  · (intro w' hSw; (try dsimp only at hSw); go_simp <;> with_reducible rfl)
  (try simp only [Act.put, List.setIfInBounds_toArray, List.set_cons_zero, List.set_cons_succ])
  refine wpAnyH_take (i := 11) (v := ?_) rfl (by kernel_rfl) (by kernel_rfl) (by kernel_rfl) (fun _ _ _ h => h) (Or.inl ⟨by rfl, ?_⟩) (by assumption) ?_
  rotate_left
  · (intro w' hSw; (try dsimp only at hSw); go_simp <;> with_reducible rfl)
  (try simp only [Act.put, List.setIfInBounds_toArray, List.set_cons_zero, List.set_cons_succ])
  refine wpAnyH_take (i := 12) (v := ?_) rfl (by kernel_rfl) (by kernel_rfl) (by kernel_rfl) (fun _ _ _ h => h) (Or.inl ⟨by rfl, ?_⟩) (by assumption) ?_
  rotate_left
  · (intro w' hSw; (try dsimp only at hSw); go_simp <;> with_reducible rfl)
  (try simp only [Act.put, List.setIfInBounds_toArray, List.set_cons_zero, List.set_cons_succ])
  refine wpAnyH_ready (rs := [13]) (by kernel_rfl) (by simp) ?_
  refine AllReadyH.cons rfl (fun K hK => ?_) AllReadyH.nil
  go_simp
  refine hK.out _ _ ?_ (fun hHeld => ?_)
  · (exact HS _ ⟨_, AwW.put aw1 hka (wo0 sa)⟩)
  clear hK K
  (try simp only [Act.put, List.setIfInBounds_toArray, List.set_cons_zero, List.set_cons_succ])
  refine wpAnyH_take (i := 14) (v := ?_) rfl (by kernel_rfl) (by kernel_rfl) (by kernel_rfl) (fun _ _ _ h => h) (Or.inl ⟨by rfl, ?_⟩) (by assumption) ?_
  rotate_left
  · (intro w' hSw; (try dsimp only at hSw); go_simp <;> with_reducible rfl)
  (try simp only [Act.put, List.setIfInBounds_toArray, List.set_cons_zero, List.set_cons_succ])
  refine wpAnyH_done (by kernel_rfl) ?_ _
  have fin := (AwW.below aw.drew hb1).put hka (wo0 sa)
  go_wp2
  refine ret_of ?_ rfl
  refine ⟨_, by simp [results, Tryd.results29, go_sem] <;> rfl, rfl, ⟨_, fin.row, by simp [hr], fun _ h => Option.some.inj h⟩, fin.gr⟩
set_option maxHeartbeats 4000000 in
theorem away_15_wo_f (m : ModD) (f : FuncD) (frm ka : Nat) (to b c n : Int) (hf : frm < f.code.length) (hx : nthX f.code frm = ⟨15, ((ka : Nat) : Int), b, c, n⟩) (hl : f.code.length * 40 ≤ 140737488351232) (g nr cp : Nat) (r : List Sp) (hr : r.length = nr) (hc : nr ≤ cp) (hcp : cp ≤ maxLen) (sa : Sp) (ha : r[ka]? = some sa) (hone : (n == (frm : Int) + 1) = false) (hone' : (n != (frm : Int) + 1) = true) (hmk : wo0Ok sa = false) (hto : (to == n) = true) (w : World) (hI : InsAt w w.heap.size f.ca f.code) (hR : RowS w g cp r) :
    Calls Tryd.prog 29 #[m.val, f.val, .int .i64 frm, .int .i64 to, .slice (some ⟨g, 0, none⟩) nr cp] w (AwayOk g cp nr none w) := by
  obtain ⟨cb, co, hca, hcb, hcc⟩ := hI (by omega)
  have x0 := hcc frm hf 0 (by omega)
  have x1 := hcc frm hf 1 (by omega)
  have x2 := hcc frm hf 2 (by omega)
  have x3 := hcc frm hf 3 (by omega)
  have x4 := hcc frm hf 4 (by omega)
  simp only [hx, insV, Nat.add_zero] at x0 x1 x2 x3 x4
  obtain ⟨nm, pa, pc, ps, rg, wd, ca, cc, cd⟩ := f
  simp only at hca hf hl hx ⊢
  subst hca
  obtain ⟨hka, ya0, ya1, fa0, fa1⟩ := hR.cells4 ha
  have hna : ((ka : Nat) : Int) < (nr : Int) := by omega
  have lg := hR.lt
  have hfr : ((frm : Nat) : Int) < (cd.length : Int) := by omega
  unfold maxLen at hcp
  have HR := Lib.hid hR
  clear hcc hx hR
  go_enter Tryd.func29, Tryd.ntmps29
  go_wp2
  generalize hW : ((((w.alloc (.cells #[.slice m.ta m.ths.length m.tc, .slice m.fa m.funcs.length m.fc] 25)).alloc (.cells #[.string nm, .slice pa ps.length pc, .int .i64 rg, .int .i64 wd, .slice (some ⟨cb, co, none⟩) cd.length cc] 48)).alloc (.cells #[.slice (some ⟨g, 0, none⟩) nr cp] 26)).alloc (.cells #[.int .i64 15, .int .i64 ((ka : Nat) : Int), .int .i64 b, .int .i64 c, .int .i64 n] 65)) = W
  have aw : AwW w W g nr cp r ⟨15, ka, b, c, n⟩ wd (.slice m.fa m.funcs.length m.fc) := by
    rw [← hW]; exact AwW.new (x := ⟨15, ka, b, c, n⟩) HR.out _ _ _ _ _ _ _ _ _
  clear hW x0 x1 x2 x3 x4
  have hsz := aw.size
  have HS : ∀ w', (∃ r', AwW w w' g nr cp r' ⟨15, ka, b, c, n⟩ wd (.slice m.fa m.funcs.length m.fc)) → (w'.cell? ⟨w.heap.size + 1 + 1 + 1, 1, none⟩ = some (.int .i64 ka) ∧ w'.cell? ⟨w.heap.size + 1 + 1, 0, none⟩ = some (.slice (some ⟨g, 0, none⟩) nr cp)) ∧ ∃ r', AwW w w' g nr cp r' ⟨15, ka, b, c, n⟩ wd (.slice m.fa m.funcs.length m.fc) := fun w' ⟨r', h⟩ => ⟨⟨h.x1, h.rb⟩, r', h⟩
  obtain ⟨_, a0, a1, i0, i1⟩ := aw.row.cells4 ha
  refine wp_region_held_drew (S := (fun w' => (w'.cell? ⟨w.heap.size + 1 + 1 + 1, 1, none⟩ = some (.int .i64 ka) ∧ w'.cell? ⟨w.heap.size + 1 + 1, 0, none⟩ = some (.slice (some ⟨g, 0, none⟩) nr cp)) ∧ ∃ r', AwW w w' g nr cp r' ⟨15, ka, b, c, n⟩ wd (.slice m.fa m.funcs.length m.fc))) (by kernel_rfl) ?_ (fun hHeld => ?_)
  · (exact HS _ ⟨_, aw.drew⟩)
  refine wpAnyH_take (i := 0) (v := ?_) rfl (by kernel_rfl) (by kernel_rfl) (by kernel_rfl) (fun _ _ _ h => h) (Or.inl ⟨by rfl, ?_⟩) (by assumption) ?_
  rotate_left
  · (intro w' hSw; (try dsimp only at hSw); go_simp <;> with_reducible rfl)
  (try simp only [Act.put, List.setIfInBounds_toArray, List.set_cons_zero, List.set_cons_succ])
  refine wpAnyH_take (i := 1) (v := ?_) rfl (by kernel_rfl) (by kernel_rfl) (by kernel_rfl) (fun _ _ _ h => h) (Or.inl ⟨by rfl, ?_⟩) (by assumption) ?_
  rotate_left
  · (intro w' hSw; (try dsimp only at hSw); go_simp <;> with_reducible rfl)
  (try simp only [Act.put, List.setIfInBounds_toArray, List.set_cons_zero, List.set_cons_succ])
  refine wpAnyH_take (i := 2) (v := ?_) rfl (by kernel_rfl) (by kernel_rfl) (by kernel_rfl) (fun _ _ _ h => h) (Or.inl ⟨by rfl, ?_⟩) (by assumption) ?_
  rotate_left
  · (intro w' hSw; (try dsimp only at hSw); go_simp <;> with_reducible rfl)
  (try simp only [Act.put, List.setIfInBounds_toArray, List.set_cons_zero, List.set_cons_succ])
  refine wpAnyH_take (i := 3) (v := ?_) rfl (by kernel_rfl) (by kernel_rfl) (by kernel_rfl) (fun _ _ _ h => h) (Or.inl ⟨by rfl, ?_⟩) (by assumption) ?_
  rotate_left
  · (intro w' hSw; (try dsimp only at hSw); go_simp <;> with_reducible rfl)
  (try simp only [Act.put, List.setIfInBounds_toArray, List.set_cons_zero, List.set_cons_succ])
  refine wpAnyH_take (i := 4) (v := ?_) rfl (by kernel_rfl) (by kernel_rfl) (by kernel_rfl) (fun _ _ _ h => h) (Or.inl ⟨by rfl, ?_⟩) (by assumption) ?_
  rotate_left
  · (intro w' hSw; (try dsimp only at hSw); go_simp <;> with_reducible rfl)
  (try simp only [Act.put, List.setIfInBounds_toArray, List.set_cons_zero, List.set_cons_succ])
  refine wpAnyH_take (i := 5) (v := ?_) rfl (by kernel_rfl) (by kernel_rfl) (by kernel_rfl) (fun _ _ _ h => h) (Or.inl ⟨by rfl, ?_⟩) (by assumption) ?_
  rotate_left
  · (intro w' hSw; (try dsimp only at hSw); go_simp <;> with_reducible rfl)
  (try simp only [Act.put, List.setIfInBounds_toArray, List.set_cons_zero, List.set_cons_succ])
  refine wpAnyH_take (i := 6) (v := ?_) rfl (by kernel_rfl) (by kernel_rfl) (by kernel_rfl) (fun _ _ _ h => h) (Or.inl ⟨by rfl, ?_⟩) (by assumption) ?_
  rotate_left
  · (intro w' hSw; (try dsimp only at hSw); go_simp <;> with_reducible rfl)
  (try simp only [Act.put, List.setIfInBounds_toArray, List.set_cons_zero, List.set_cons_succ])
  refine wpAnyH_ready (rs := [7]) (by kernel_rfl) (by simp) ?_
  refine AllReadyH.cons rfl (fun K hK => ?_) AllReadyH.nil
  go_simp
  refine hK.out _ _ ?_ (fun hHeld => ?_)
  · (exact HS _ ⟨_, aw.drew⟩)
  clear hK K
  (try simp only [Act.put, List.setIfInBounds_toArray, List.set_cons_zero, List.set_cons_succ])
  refine wpAnyH_ready (rs := [8]) (by kernel_rfl) (by simp) ?_
  refine AllReadyH.cons rfl (fun K hK => ?_) AllReadyH.nil
  go_simp; go_at_call 56; refine (without0P sa _).mono ?_; rintro e w1 ⟨rfl, hb1⟩; go_wp2_with fail; have hs1 := hb1.size; have aw1 := AwW.below aw.drew hb1; obtain ⟨_, g0, g1, h0, h1⟩ := aw1.row.cells4 ha
  refine hK.out _ _ ?_ (fun hHeld => ?_)
  · (exact HS _ ⟨_, aw1⟩)
  clear hK K
  (try simp only [Act.put, List.setIfInBounds_toArray, List.set_cons_zero, List.set_cons_succ])
  refine wpAnyH_take (i := 9) (v := ?_) rfl (by kernel_rfl) (by kernel_rfl) (by kernel_rfl) (fun _ _ _ h => h) (Or.inl ⟨by rfl, ?_⟩) (by assumption) ?_
  rotate_left
  · (intro w' hSw; (try dsimp only at hSw); go_simp <;> with_reducible rfl)
  (try simp only [Act.put, List.setIfInBounds_toArray, List.set_cons_zero, List.set_cons_succ])
  refine wpAnyH_take (i := 10) (v := ?_) rfl (by kernel_rfl) (by kernel_rfl) (by kernel_rfl) (fun _ _ _ h => h) (Or.inl ⟨by rfl, ?_⟩) (by assumption) ?_
  rotate_left
  · (intro w' hSw; (try dsimp only at hSw); go_simp <;> with_reducible rfl)
  (try simp only [Act.put, List.setIfInBounds_toArray, List.set_cons_zero, List.set_cons_succ])
  refine wpAnyH_take (i := 11) (v := ?_) rfl (by kernel_rfl) (by kernel_rfl) (by kernel_rfl) (fun _ _ _ h => h) (Or.inl ⟨by rfl, ?_⟩) (by assumption) ?_
  rotate_left
  · (intro w' hSw; (try dsimp only at hSw); go_simp <;> with_reducible rfl)
  (try simp only [Act.put, List.setIfInBounds_toArray, List.set_cons_zero, List.set_cons_succ])
  refine wpAnyH_take (i := 12) (v := ?_) rfl (by kernel_rfl) (by kernel_rfl) (by kernel_rfl) (fun _ _ _ h => h) (Or.inl ⟨by rfl, ?_⟩) (by assumption) ?_
  rotate_left
  · (intro w' hSw; (try dsimp only at hSw); go_simp <;> with_reducible rfl)
  (try simp only [Act.put, List.setIfInBounds_toArray, List.set_cons_zero, List.set_cons_succ])
  refine wpAnyH_ready (rs := [13]) (by kernel_rfl) (by simp) ?_
  refine AllReadyH.cons rfl (fun K hK => ?_) AllReadyH.nil
  go_simp
  refine hK.out _ _ ?_ (fun hHeld => ?_)
  · (exact HS _ ⟨_, AwW.put aw1 hka (wo0 sa)⟩)
  clear hK K
  (try simp only [Act.put, List.setIfInBounds_toArray, List.set_cons_zero, List.set_cons_succ])
  refine wpAnyH_take (i := 14) (v := ?_) rfl (by kernel_rfl) (by kernel_rfl) (by kernel_rfl) (fun _ _ _ h => h) (Or.inl ⟨by rfl, ?_⟩) (by assumption) ?_
  rotate_left
  · (intro w' hSw; (try dsimp only at hSw); go_simp <;> with_reducible rfl)
  (try simp only [Act.put, List.setIfInBounds_toArray, List.set_cons_zero, List.set_cons_succ])
  refine wpAnyH_done (by kernel_rfl) ?_ _
  have fin := (AwW.below aw.drew hb1).put hka (wo0 sa)
  go_wp2
  refine ret_of ?_ rfl
  refine ⟨_, by simp [results, Tryd.results29, go_sem] <;> rfl, rfl, ⟨_, fin.row, by simp [hr], fun _ h => by cases h⟩, fin.gr⟩
set_option maxHeartbeats 4000000 in
theorem away_16_wo_t (m : ModD) (f : FuncD) (frm ka : Nat) (to b c n : Int) (hf : frm < f.code.length) (hx : nthX f.code frm = ⟨16, ((ka : Nat) : Int), b, c, n⟩) (hl : f.code.length * 40 ≤ 140737488351232) (g nr cp : Nat) (r : List Sp) (hr : r.length = nr) (hc : nr ≤ cp) (hcp : cp ≤ maxLen) (sa : Sp) (ha : r[ka]? = some sa) (hone : (n == (frm : Int) + 1) = false) (hone' : (n != (frm : Int) + 1) = true) (hmk : wo0Ok sa = true) (hto : (to == n) = false) (w : World) (hI : InsAt w w.heap.size f.ca f.code) (hR : RowS w g cp r) :
    Calls Tryd.prog 29 #[m.val, f.val, .int .i64 frm, .int .i64 to, .slice (some ⟨g, 0, none⟩) nr cp] w (AwayOk g cp nr (some (r.set ka (wo0 sa))) w) := by
  obtain ⟨cb, co, hca, hcb, hcc⟩ := hI (by omega)
  have x0 := hcc frm hf 0 (by omega)
  have x1 := hcc frm hf 1 (by omega)
  have x2 := hcc frm hf 2 (by omega)
  have x3 := hcc frm hf 3 (by omega)
  have x4 := hcc frm hf 4 (by omega)
  simp only [hx, insV, Nat.add_zero] at x0 x1 x2 x3 x4
  obtain ⟨nm, pa, pc, ps, rg, wd, ca, cc, cd⟩ := f
  simp only at hca hf hl hx ⊢
  subst hca
  obtain ⟨hka, ya0, ya1, fa0, fa1⟩ := hR.cells4 ha
  have hna : ((ka : Nat) : Int) < (nr : Int) := by omega
  have lg := hR.lt
  have hfr : ((frm : Nat) : Int) < (cd.length : Int) := by omega
  unfold maxLen at hcp
  have HR := Lib.hid hR
  clear hcc hx hR
  go_enter Tryd.func29, Tryd.ntmps29
  go_wp2
  generalize hW : ((((w.alloc (.cells #[.slice m.ta m.ths.length m.tc, .slice m.fa m.funcs.length m.fc] 25)).alloc (.cells #[.string nm, .slice pa ps.length pc, .int .i64 rg, .int .i64 wd, .slice (some ⟨cb, co, none⟩) cd.length cc] 48)).alloc (.cells #[.slice (some ⟨g, 0, none⟩) nr cp] 26)).alloc (.cells #[.int .i64 16, .int .i64 ((ka : Nat) : Int), .int .i64 b, .int .i64 c, .int .i64 n] 65)) = W
  have aw : AwW w W g nr cp r ⟨16, ka, b, c, n⟩ wd (.slice m.fa m.funcs.length m.fc) := by
    rw [← hW]; exact AwW.new (x := ⟨16, ka, b, c, n⟩) HR.out _ _ _ _ _ _ _ _ _
  clear hW x0 x1 x2 x3 x4
  have hsz := aw.size
  have HS : ∀ w', (∃ r', AwW w w' g nr cp r' ⟨16, ka, b, c, n⟩ wd (.slice m.fa m.funcs.length m.fc)) → (w'.cell? ⟨w.heap.size + 1 + 1 + 1, 1, none⟩ = some (.int .i64 ka) ∧ w'.cell? ⟨w.heap.size + 1 + 1, 0, none⟩ = some (.slice (some ⟨g, 0, none⟩) nr cp)) ∧ ∃ r', AwW w w' g nr cp r' ⟨16, ka, b, c, n⟩ wd (.slice m.fa m.funcs.length m.fc) := fun w' ⟨r', h⟩ => ⟨⟨h.x1, h.rb⟩, r', h⟩
  obtain ⟨_, a0, a1, i0, i1⟩ := aw.row.cells4 ha
  refine wp_region_held_drew (S := (fun w' => (w'.cell? ⟨w.heap.size + 1 + 1 + 1, 1, none⟩ = some (.int .i64 ka) ∧ w'.cell? ⟨w.heap.size + 1 + 1, 0, none⟩ = some (.slice (some ⟨g, 0, none⟩) nr cp)) ∧ ∃ r', AwW w w' g nr cp r' ⟨16, ka, b, c, n⟩ wd (.slice m.fa m.funcs.length m.fc))) (by kernel_rfl) ?_ (fun hHeld => ?_)
  · (exact HS _ ⟨_, aw.drew⟩)
  refine wpAnyH_take (i := 0) (v := ?_) rfl (by kernel_rfl) (by kernel_rfl) (by kernel_rfl) (fun _ _ _ h => h) (Or.inl ⟨by rfl, ?_⟩) (by assumption) ?_
  rotate_left
  · (intro w' hSw; (try dsimp only at hSw); go_simp <;> with_reducible rfl)
  (try simp only [Act.put, List.setIfInBounds_toArray, List.set_cons_zero, List.set_cons_succ])
  refine wpAnyH_take (i := 1) (v := ?_) rfl (by kernel_rfl) (by kernel_rfl) (by kernel_rfl) (fun _ _ _ h => h) (Or.inl ⟨by rfl, ?_⟩) (by assumption) ?_
  rotate_left
  · (intro w' hSw; (try dsimp only at hSw); go_simp <;> with_reducible rfl)
  (try simp only [Act.put, List.setIfInBounds_toArray, List.set_cons_zero, List.set_cons_succ])
  refine wpAnyH_take (i := 2) (v := ?_) rfl (by kernel_rfl) (by kernel_rfl) (by kernel_rfl) (fun _ _ _ h => h) (Or.inl ⟨by rfl, ?_⟩) (by assumption) ?_
  rotate_left
  · (intro w' hSw; (try dsimp only at hSw); go_simp <;> with_reducible rfl)
  (try simp only [Act.put, List.setIfInBounds_toArray, List.set_cons_zero, List.set_cons_succ])
  refine wpAnyH_take (i := 3) (v := ?_) rfl (by kernel_rfl) (by kernel_rfl) (by kernel_rfl) (fun _ _ _ h => h) (Or.inl ⟨by rfl, ?_⟩) (by assumption) ?_
  rotate_left
  · (intro w' hSw; (try dsimp only at hSw); go_simp <;> with_reducible rfl)
  (try simp only [Act.put, List.setIfInBounds_toArray, List.set_cons_zero, List.set_cons_succ])
  refine wpAnyH_take (i := 4) (v := ?_) rfl (by kernel_rfl) (by kernel_rfl) (by kernel_rfl) (fun _ _ _ h => h) (Or.inl ⟨by rfl, ?_⟩) (by assumption) ?_
  rotate_left
  · (intro w' hSw; (try dsimp only at hSw); go_simp <;> with_reducible rfl)
  (try simp only [Act.put, List.setIfInBounds_toArray, List.set_cons_zero, List.set_cons_succ])
  refine wpAnyH_take (i := 5) (v := ?_) rfl (by kernel_rfl) (by kernel_rfl) (by kernel_rfl) (fun _ _ _ h => h) (Or.inl ⟨by rfl, ?_⟩) (by assumption) ?_
  rotate_left
  · (intro w' hSw; (try dsimp only at hSw); go_simp <;> with_reducible rfl)
  (try simp only [Act.put, List.setIfInBounds_toArray, List.set_cons_zero, List.set_cons_succ])
  refine wpAnyH_take (i := 6) (v := ?_) rfl (by kernel_rfl) (by kernel_rfl) (by kernel_rfl) (fun _ _ _ h => h) (Or.inl ⟨by rfl, ?_⟩) (by assumption) ?_
  rotate_left
  · (intro w' hSw; (try dsimp only at hSw); go_simp <;> with_reducible rfl)
  (try simp only [Act.put, List.setIfInBounds_toArray, List.set_cons_zero, List.set_cons_succ])
  refine wpAnyH_ready (rs := [7]) (by kernel_rfl) (by simp) ?_
  refine AllReadyH.cons rfl (fun K hK => ?_) AllReadyH.nil
  go_simp
  refine hK.out _ _ ?_ (fun hHeld => ?_)
  · (exact HS _ ⟨_, aw.drew⟩)
  clear hK K
  (try simp only [Act.put, List.setIfInBounds_toArray, List.set_cons_zero, List.set_cons_succ])
  refine wpAnyH_ready (rs := [8]) (by kernel_rfl) (by simp) ?_
  refine AllReadyH.cons rfl (fun K hK => ?_) AllReadyH.nil
  go_simp; go_at_call 56; refine (without0P sa _).mono ?_; rintro e w1 ⟨rfl, hb1⟩; go_wp2_with fail; have hs1 := hb1.size; have aw1 := AwW.below aw.drew hb1; obtain ⟨_, g0, g1, h0, h1⟩ := aw1.row.cells4 ha
  refine hK.out _ _ ?_ (fun hHeld => ?_)
  · (exact HS _ ⟨_, aw1⟩)
  clear hK K
  (try simp only [Act.put, List.setIfInBounds_toArray, List.set_cons_zero, List.set_cons_succ])
  refine wpAnyH_take (i := 9) (v := ?_) rfl (by kernel_rfl) (by kernel_rfl) (by kernel_rfl) (fun _ _ _ h => h) (Or.inl ⟨by rfl, ?_⟩) (by assumption) ?_
  rotate_left
  · (intro w' hSw; (try dsimp only at hSw); go_simp <;> with_reducible rfl)
  (try simp only [Act.put, List.setIfInBounds_toArray, List.set_cons_zero, List.set_cons_succ])
  refine wpAnyH_take (i := 10) (v := ?_) rfl (by kernel_rfl) (by kernel_rfl) (by kernel_rfl) (fun _ _ _ h => h) (Or.inl ⟨by rfl, ?_⟩) (by assumption) ?_
  rotate_left
  · (intro w' hSw; (try dsimp only at hSw); go_simp <;> with_reducible rfl)
  (try simp only [Act.put, List.setIfInBounds_toArray, List.set_cons_zero, List.set_cons_succ])
  refine wpAnyH_take (i := 11) (v := ?_) rfl (by kernel_rfl) (by kernel_rfl) (by kernel_rfl) (fun _ _ _ h => h) (Or.inl ⟨by rfl, ?_⟩) (by assumption) ?_
  rotate_left
  · (intro w' hSw; (try dsimp only at hSw); go_simp <;> with_reducible rfl)
  (try simp only [Act.put, List.setIfInBounds_toArray, List.set_cons_zero, List.set_cons_succ])
  refine wpAnyH_take (i := 12) (v := ?_) rfl (by kernel_rfl) (by kernel_rfl) (by kernel_rfl) (fun _ _ _ h => h) (Or.inl ⟨by rfl, ?_⟩) (by assumption) ?_
  rotate_left
  · (intro w' hSw; (try dsimp only at hSw); go_simp <;> with_reducible rfl)
  (try simp only [Act.put, List.setIfInBounds_toArray, List.set_cons_zero, List.set_cons_succ])
  refine wpAnyH_ready (rs := [13]) (by kernel_rfl) (by simp) ?_
  refine AllReadyH.cons rfl (fun K hK => ?_) AllReadyH.nil
  go_simp
  refine hK.out _ _ ?_ (fun hHeld => ?_)
  · (exact HS _ ⟨_, AwW.put aw1 hka (wo0 sa)⟩)
  clear hK K
  (try simp only [Act.put, List.setIfInBounds_toArray, List.set_cons_zero, List.set_cons_succ])
  refine wpAnyH_take (i := 14) (v := ?_) rfl (by kernel_rfl) (by kernel_rfl) (by kernel_rfl) (fun _ _ _ h => h) (Or.inl ⟨by rfl, ?_⟩) (by assumption) ?_
  rotate_left
  · (intro w' hSw; (try dsimp only at hSw); go_simp <;> with_reducible rfl)
  (try simp only [Act.put, List.setIfInBounds_toArray, List.set_cons_zero, List.set_cons_succ])
  refine wpAnyH_done (by kernel_rfl) ?_ _
  have fin := (AwW.below aw.drew hb1).put hka (wo0 sa)
  go_wp2
  refine ret_of ?_ rfl
  refine ⟨_, by simp [results, Tryd.results29, go_sem] <;> rfl, rfl, ⟨_, fin.row, by simp [hr], fun _ h => Option.some.inj h⟩, fin.gr⟩
set_option maxHeartbeats 4000000 in
theorem away_16_wo_f (m : ModD) (f : FuncD) (frm ka : Nat) (to b c n : Int) (hf : frm < f.code.length) (hx : nthX f.code frm = ⟨16, ((ka : Nat) : Int), b, c, n⟩) (hl : f.code.length * 40 ≤ 140737488351232) (g nr cp : Nat) (r : List Sp) (hr : r.length = nr) (hc : nr ≤ cp) (hcp : cp ≤ maxLen) (sa : Sp) (ha : r[ka]? = some sa) (hone : (n == (frm : Int) + 1) = false) (hone' : (n != (frm : Int) + 1) = true) (hmk : wo0Ok sa = false) (hto : (to == n) = false) (w : World) (hI : InsAt w w.heap.size f.ca f.code) (hR : RowS w g cp r) :
    Calls Tryd.prog 29 #[m.val, f.val, .int .i64 frm, .int .i64 to, .slice (some ⟨g, 0, none⟩) nr cp] w (AwayOk g cp nr none w) := by
  obtain ⟨cb, co, hca, hcb, hcc⟩ := hI (by omega)
  have x0 := hcc frm hf 0 (by omega)
  have x1 := hcc frm hf 1 (by omega)
  have x2 := hcc frm hf 2 (by omega)
  have x3 := hcc frm hf 3 (by omega)
  have x4 := hcc frm hf 4 (by omega)
  simp only [hx, insV, Nat.add_zero] at x0 x1 x2 x3 x4
  obtain ⟨nm, pa, pc, ps, rg, wd, ca, cc, cd⟩ := f
  simp only at hca hf hl hx ⊢
  subst hca
  obtain ⟨hka, ya0, ya1, fa0, fa1⟩ := hR.cells4 ha
  have hna : ((ka : Nat) : Int) < (nr : Int) := by omega
  have lg := hR.lt
  have hfr : ((frm : Nat) : Int) < (cd.length : Int) := by omega
  unfold maxLen at hcp
  have HR := Lib.hid hR
  clear hcc hx hR
  go_enter Tryd.func29, Tryd.ntmps29
  go_wp2
  generalize hW : ((((w.alloc (.cells #[.slice m.ta m.ths.length m.tc, .slice m.fa m.funcs.length m.fc] 25)).alloc (.cells #[.string nm, .slice pa ps.length pc, .int .i64 rg, .int .i64 wd, .slice (some ⟨cb, co, none⟩) cd.length cc] 48)).alloc (.cells #[.slice (some ⟨g, 0, none⟩) nr cp] 26)).alloc (.cells #[.int .i64 16, .int .i64 ((ka : Nat) : Int), .int .i64 b, .int .i64 c, .int .i64 n] 65)) = W
  have aw : AwW w W g nr cp r ⟨16, ka, b, c, n⟩ wd (.slice m.fa m.funcs.length m.fc) := by
    rw [← hW]; exact AwW.new (x := ⟨16, ka, b, c, n⟩) HR.out _ _ _ _ _ _ _ _ _
  clear hW x0 x1 x2 x3 x4
  have hsz := aw.size
  have HS : ∀ w', (∃ r', AwW w w' g nr cp r' ⟨16, ka, b, c, n⟩ wd (.slice m.fa m.funcs.length m.fc)) → (w'.cell? ⟨w.heap.size + 1 + 1 + 1, 1, none⟩ = some (.int .i64 ka) ∧ w'.cell? ⟨w.heap.size + 1 + 1, 0, none⟩ = some (.slice (some ⟨g, 0, none⟩) nr cp)) ∧ ∃ r', AwW w w' g nr cp r' ⟨16, ka, b, c, n⟩ wd (.slice m.fa m.funcs.length m.fc) := fun w' ⟨r', h⟩ => ⟨⟨h.x1, h.rb⟩, r', h⟩
  obtain ⟨_, a0, a1, i0, i1⟩ := aw.row.cells4 ha
  refine wp_region_held_drew (S := (fun w' => (w'.cell? ⟨w.heap.size + 1 + 1 + 1, 1, none⟩ = some (.int .i64 ka) ∧ w'.cell? ⟨w.heap.size + 1 + 1, 0, none⟩ = some (.slice (some ⟨g, 0, none⟩) nr cp)) ∧ ∃ r', AwW w w' g nr cp r' ⟨16, ka, b, c, n⟩ wd (.slice m.fa m.funcs.length m.fc))) (by kernel_rfl) ?_ (fun hHeld => ?_)
  · (exact HS _ ⟨_, aw.drew⟩)
  refine wpAnyH_take (i := 0) (v := ?_) rfl (by kernel_rfl) (by kernel_rfl) (by kernel_rfl) (fun _ _ _ h => h) (Or.inl ⟨by rfl, ?_⟩) (by assumption) ?_
  rotate_left
  · (intro w' hSw; (try dsimp only at hSw); go_simp <;> with_reducible rfl)
  (try simp only [Act.put, List.setIfInBounds_toArray, List.set_cons_zero, List.set_cons_succ])
  refine wpAnyH_take (i := 1) (v := ?_) rfl (by kernel_rfl) (by kernel_rfl) (by kernel_rfl) (fun _ _ _ h => h) (Or.inl ⟨by rfl, ?_⟩) (by assumption) ?_
  rotate_left
  · (intro w' hSw; (try dsimp only at hSw); go_simp <;> with_reducible rfl)
  (try simp only [Act.put, List.setIfInBounds_toArray, List.set_cons_zero, List.set_cons_succ])
  refine wpAnyH_take (i := 2) (v := ?_) rfl (by kernel_rfl) (by kernel_rfl) (by kernel_rfl) (fun _ _ _ h => h) (Or.inl ⟨by rfl, ?_⟩) (by assumption) ?_
  rotate_left
  · (intro w' hSw; (try dsimp only at hSw); go_simp <;> with_reducible rfl)
  (try simp only [Act.put, List.setIfInBounds_toArray, List.set_cons_zero, List.set_cons_succ])
  refine wpAnyH_take (i := 3) (v := ?_) rfl (by kernel_rfl) (by kernel_rfl) (by kernel_rfl) (fun _ _ _ h => h) (Or.inl ⟨by rfl, ?_⟩) (by assumption) ?_
  rotate_left
  · (intro w' hSw; (try dsimp only at hSw); go_simp <;> with_reducible rfl)
  (try simp only [Act.put, List.setIfInBounds_toArray, List.set_cons_zero, List.set_cons_succ])
  refine wpAnyH_take (i := 4) (v := ?_) rfl (by kernel_rfl) (by kernel_rfl) (by kernel_rfl) (fun _ _ _ h => h) (Or.inl ⟨by rfl, ?_⟩) (by assumption) ?_
  rotate_left
  · (intro w' hSw; (try dsimp only at hSw); go_simp <;> with_reducible rfl)
  (try simp only [Act.put, List.setIfInBounds_toArray, List.set_cons_zero, List.set_cons_succ])
  refine wpAnyH_take (i := 5) (v := ?_) rfl (by kernel_rfl) (by kernel_rfl) (by kernel_rfl) (fun _ _ _ h => h) (Or.inl ⟨by rfl, ?_⟩) (by assumption) ?_
  rotate_left
  · (intro w' hSw; (try dsimp only at hSw); go_simp <;> with_reducible rfl)
  (try simp only [Act.put, List.setIfInBounds_toArray, List.set_cons_zero, List.set_cons_succ])
  refine wpAnyH_take (i := 6) (v := ?_) rfl (by kernel_rfl) (by kernel_rfl) (by kernel_rfl) (fun _ _ _ h => h) (Or.inl ⟨by rfl, ?_⟩) (by assumption) ?_
  rotate_left
  · (intro w' hSw; (try dsimp only at hSw); go_simp <;> with_reducible rfl)
  (try simp only [Act.put, List.setIfInBounds_toArray, List.set_cons_zero, List.set_cons_succ])
  refine wpAnyH_ready (rs := [7]) (by kernel_rfl) (by simp) ?_
  refine AllReadyH.cons rfl (fun K hK => ?_) AllReadyH.nil
  go_simp
  refine hK.out _ _ ?_ (fun hHeld => ?_)
  · (exact HS _ ⟨_, aw.drew⟩)
  clear hK K
  (try simp only [Act.put, List.setIfInBounds_toArray, List.set_cons_zero, List.set_cons_succ])
  refine wpAnyH_ready (rs := [8]) (by kernel_rfl) (by simp) ?_
  refine AllReadyH.cons rfl (fun K hK => ?_) AllReadyH.nil
  go_simp; go_at_call 56; refine (without0P sa _).mono ?_; rintro e w1 ⟨rfl, hb1⟩; go_wp2_with fail; have hs1 := hb1.size; have aw1 := AwW.below aw.drew hb1; obtain ⟨_, g0, g1, h0, h1⟩ := aw1.row.cells4 ha
  refine hK.out _ _ ?_ (fun hHeld => ?_)
  · (exact HS _ ⟨_, aw1⟩)
  clear hK K
  (try simp only [Act.put, List.setIfInBounds_toArray, List.set_cons_zero, List.set_cons_succ])
  refine wpAnyH_take (i := 9) (v := ?_) rfl (by kernel_rfl) (by kernel_rfl) (by kernel_rfl) (fun _ _ _ h => h) (Or.inl ⟨by rfl, ?_⟩) (by assumption) ?_
  rotate_left
  · (intro w' hSw; (try dsimp only at hSw); go_simp <;> with_reducible rfl)
  (try simp only [Act.put, List.setIfInBounds_toArray, List.set_cons_zero, List.set_cons_succ])
  refine wpAnyH_take (i := 10) (v := ?_) rfl (by kernel_rfl) (by kernel_rfl) (by kernel_rfl) (fun _ _ _ h => h) (Or.inl ⟨by rfl, ?_⟩) (by assumption) ?_
  rotate_left
  · (intro w' hSw; (try dsimp only at hSw); go_simp <;> with_reducible rfl)
  (try simp only [Act.put, List.setIfInBounds_toArray, List.set_cons_zero, List.set_cons_succ])
  refine wpAnyH_take (i := 11) (v := ?_) rfl (by kernel_rfl) (by kernel_rfl) (by kernel_rfl) (fun _ _ _ h => h) (Or.inl ⟨by rfl, ?_⟩) (by assumption) ?_
  rotate_left
  · (intro w' hSw; (try dsimp only at hSw); go_simp <;> with_reducible rfl)
  (try simp only [Act.put, List.setIfInBounds_toArray, List.set_cons_zero, List.set_cons_succ])
  refine wpAnyH_take (i := 12) (v := ?_) rfl (by kernel_rfl) (by kernel_rfl) (by kernel_rfl) (fun _ _ _ h => h) (Or.inl ⟨by rfl, ?_⟩) (by assumption) ?_
  rotate_left
  · (intro w' hSw; (try dsimp only at hSw); go_simp <;> with_reducible rfl)
  (try simp only [Act.put, List.setIfInBounds_toArray, List.set_cons_zero, List.set_cons_succ])
  refine wpAnyH_ready (rs := [13]) (by kernel_rfl) (by simp) ?_
  refine AllReadyH.cons rfl (fun K hK => ?_) AllReadyH.nil
  go_simp
  refine hK.out _ _ ?_ (fun hHeld => ?_)
  · (exact HS _ ⟨_, AwW.put aw1 hka (wo0 sa)⟩)
  clear hK K
  (try simp only [Act.put, List.setIfInBounds_toArray, List.set_cons_zero, List.set_cons_succ])
  refine wpAnyH_take (i := 14) (v := ?_) rfl (by kernel_rfl) (by kernel_rfl) (by kernel_rfl) (fun _ _ _ h => h) (Or.inl ⟨by rfl, ?_⟩) (by assumption) ?_
  rotate_left
  · (intro w' hSw; (try dsimp only at hSw); go_simp <;> with_reducible rfl)
  (try simp only [Act.put, List.setIfInBounds_toArray, List.set_cons_zero, List.set_cons_succ])
  refine wpAnyH_done (by kernel_rfl) ?_ _
  have fin := (AwW.below aw.drew hb1).put hka (wo0 sa)
  go_wp2
  refine ret_of ?_ rfl
  refine ⟨_, by simp [results, Tryd.results29, go_sem] <;> rfl, rfl, ⟨_, fin.row, by simp [hr], fun _ h => by cases h⟩, fin.gr⟩
end Go.Proofs.YtddobhneplfddaaDoor

namespace Go.Proofs.YtddobhneplfddaaDoor
set_option maxRecDepth 100000
open Go.RowKit
set_option linter.unusedSimpArgs false
set_option linter.unusedVariables false
set_option maxHeartbeats 4000000 in
theorem away_11_ttt (m : ModD) (f : FuncD) (frm ka kb : Nat) (to c n : Int) (hf : frm < f.code.length) (hx : nthX f.code frm = ⟨11, ((ka : Nat) : Int), ((kb : Nat) : Int), c, n⟩) (hl : f.code.length * 40 ≤ 140737488351232) (g nr cp : Nat) (r : List Sp) (hr : r.length = nr) (hc : nr ≤ cp) (hcp : cp ≤ maxLen) (sa : Sp) (ha : r[ka]? = some sa) (sb : Sp) (hb : r[kb]? = some sb) (hn : In64 n) (hm : 0 ≤ f.words ∧ f.words ≤ 4096) (hwk : wordsOk n f.words = true) (hmk : sb.meetOk (wordsS n f.words) = true) (hto : (to == n) = true) (w : World) (hI : InsAt w w.heap.size f.ca f.code) (hR : RowS w g cp r) :
    Calls Tryd.prog 29 #[m.val, f.val, .int .i64 frm, .int .i64 to, .slice (some ⟨g, 0, none⟩) nr cp] w (AwayOk g cp nr (some ((r.set kb (sb.meet (wordsS n f.words))).set ka Sp.all)) w) := by
  obtain ⟨cb, co, hca, hcb, hcc⟩ := hI (by omega)
  have x0 := hcc frm hf 0 (by omega)
  have x1 := hcc frm hf 1 (by omega)
  have x2 := hcc frm hf 2 (by omega)
  have x3 := hcc frm hf 3 (by omega)
  have x4 := hcc frm hf 4 (by omega)
  simp only [hx, insV, Nat.add_zero] at x0 x1 x2 x3 x4
  obtain ⟨nm, pa, pc, ps, rg, wd, ca, cc, cd⟩ := f
  simp only at hca hf hl hx hm hwk ⊢
  simp only at hmk
  subst hca
  obtain ⟨hka, ya0, ya1, fa0, fa1⟩ := hR.cells4 ha
  have hna : ((ka : Nat) : Int) < (nr : Int) := by omega
  obtain ⟨hkb, yb0, yb1, fb0, fb1⟩ := hR.cells4 hb
  have hnb : ((kb : Nat) : Int) < (nr : Int) := by omega
  have lg := hR.lt
  have hfr : ((frm : Nat) : Int) < (cd.length : Int) := by omega
  unfold maxLen at hcp
  have HR := Lib.hid hR
  clear hcc hx hR
  go_enter Tryd.func29, Tryd.ntmps29
  go_wp2_with fail
  generalize hW : ((((w.alloc (.cells #[.slice m.ta m.ths.length m.tc, .slice m.fa m.funcs.length m.fc] 25)).alloc (.cells #[.string nm, .slice pa ps.length pc, .int .i64 rg, .int .i64 wd, .slice (some ⟨cb, co, none⟩) cd.length cc] 48)).alloc (.cells #[.slice (some ⟨g, 0, none⟩) nr cp] 26)).alloc (.cells #[.int .i64 11, .int .i64 ((ka : Nat) : Int), .int .i64 ((kb : Nat) : Int), .int .i64 c, .int .i64 n] 65)) = W
  have aw : AwW w W g nr cp r ⟨11, ka, kb, c, n⟩ wd (.slice m.fa m.funcs.length m.fc) := by
    rw [← hW]; exact AwW.new (x := ⟨11, ka, kb, c, n⟩) HR.out _ _ _ _ _ _ _ _ _
  clear hW x0 x1 x2 x3 x4
  have hsz := aw.size
  go_at_call 57
  refine (wordsP n wd hn hm _).mono ?_
  rintro e w1 ⟨⟨a1, rfl, ha1⟩, hb1⟩
  rw [hwk] at ha1 ⊢
  obtain rfl := ha1 rfl
  clear ha1
  have aw1 := AwW.alloc (AwW.below aw hb1) (.cells #[.int .i64 (wordsS n wd).lo, .int .i64 (wordsS n wd).hi] 34)
  have f2 := aw1.x2
  have f0 := aw1.x0
  clear hb1
  go_wp2_with fail
  go_at_call 53
  refine (meetAw (wordsS n wd) sb kb g nr cp r hr (by unfold maxLen; omega) hc hb w _ _ _ _ aw1).mono ?_
  rintro e w2 ⟨rfl, aw2⟩
  rw [hmk]
  have e0 := aw2.x0
  have e1 := aw2.x1
  have eb := aw2.rb
  have hrl : (r.set kb (sb.meet (wordsS n wd))).length = nr := by simp [hr]
  have hat : ∃ s, (r.set kb (sb.meet (wordsS n wd)))[ka]? = some s := ⟨_, List.getElem?_eq_getElem (by simp; omega)⟩
  clear aw aw1 f0 f2
  go_wp2
  have HS : ∀ w', (∃ r', r'.length = nr ∧ AwW w w' g nr cp r' ⟨11, ka, kb, c, n⟩ wd (.slice m.fa m.funcs.length m.fc)) → (w'.cell? ⟨w.heap.size + 1 + 1 + 1, 1, none⟩ = some (.int .i64 ka) ∧ w'.cell? ⟨w.heap.size + 1 + 1, 0, none⟩ = some (.slice (some ⟨g, 0, none⟩) nr cp)) ∧ ∃ r', r'.length = nr ∧ AwW w w' g nr cp r' ⟨11, ka, kb, c, n⟩ wd (.slice m.fa m.funcs.length m.fc) := fun w' ⟨r', hr', h⟩ => ⟨⟨h.x1, h.rb⟩, r', hr', h⟩
  refine wp_region_held_drew (S := (fun w' => (w'.cell? ⟨w.heap.size + 1 + 1 + 1, 1, none⟩ = some (.int .i64 ka) ∧ w'.cell? ⟨w.heap.size + 1 + 1, 0, none⟩ = some (.slice (some ⟨g, 0, none⟩) nr cp)) ∧ ∃ r', r'.length = nr ∧ AwW w w' g nr cp r' ⟨11, ka, kb, c, n⟩ wd (.slice m.fa m.funcs.length m.fc))) (by kernel_rfl) ?_ (fun hHeld => ?_)
  · (exact HS _ ⟨_, hrl, aw2.drew⟩)
  refine wpAnyH_take (i := 0) (v := ?_) rfl (by kernel_rfl) (by kernel_rfl) (by kernel_rfl) (fun _ _ _ h => h) (Or.inl ⟨by rfl, ?_⟩) (by assumption) ?_
  rotate_left
  · (intro w' hSw; (try dsimp only at hSw); go_simp <;> with_reducible rfl)
  (try simp only [Act.put, List.setIfInBounds_toArray, List.set_cons_zero, List.set_cons_succ])
  refine wpAnyH_take (i := 1) (v := ?_) rfl (by kernel_rfl) (by kernel_rfl) (by kernel_rfl) (fun _ _ _ h => h) (Or.inl ⟨by rfl, ?_⟩) (by assumption) ?_
  rotate_left
  · (intro w' hSw; (try dsimp only at hSw); go_simp <;> with_reducible rfl)
  (try simp only [Act.put, List.setIfInBounds_toArray, List.set_cons_zero, List.set_cons_succ])
  refine wpAnyH_take (i := 2) (v := ?_) rfl (by kernel_rfl) (by kernel_rfl) (by kernel_rfl) (fun _ _ _ h => h) (Or.inl ⟨by rfl, ?_⟩) (by assumption) ?_
  rotate_left
  · (intro w' hSw; (try dsimp only at hSw); go_simp <;> with_reducible rfl)
  (try simp only [Act.put, List.setIfInBounds_toArray, List.set_cons_zero, List.set_cons_succ])
  refine wpAnyH_ready (rs := [3]) (by kernel_rfl) (by simp) ?_
  refine AllReadyH.cons rfl (fun K hK => ?_) AllReadyH.nil
  go_simp; go_at_call 58; refine (allP _).mono ?_; rintro e w3 ⟨rfl, hb3⟩; go_wp2_with fail; have hs3 := hb3.size; have aw3 := AwW.below aw2.drew hb3; obtain ⟨sx3, hsx3⟩ := hat; obtain ⟨hka3, g0, g1, h0, h1⟩ := aw3.row.cells4 hsx3
  refine hK.out _ _ ?_ (fun hHeld => ?_)
  · (exact HS _ ⟨_, hrl, aw3⟩)
  clear hK K
  (try simp only [Act.put, List.setIfInBounds_toArray, List.set_cons_zero, List.set_cons_succ])
  refine wpAnyH_take (i := 4) (v := ?_) rfl (by kernel_rfl) (by kernel_rfl) (by kernel_rfl) (fun _ _ _ h => h) (Or.inl ⟨by rfl, ?_⟩) (by assumption) ?_
  rotate_left
  · (intro w' hSw; (try dsimp only at hSw); go_simp <;> with_reducible rfl)
  (try simp only [Act.put, List.setIfInBounds_toArray, List.set_cons_zero, List.set_cons_succ])
  refine wpAnyH_ready (rs := [5]) (by kernel_rfl) (by simp) ?_
  refine AllReadyH.cons rfl (fun K hK => ?_) AllReadyH.nil
  go_simp
  refine hK.out _ _ ?_ (fun hHeld => ?_)
  · (exact HS _ ⟨_, by simp [hrl], AwW.put aw3 hka3 Sp.all⟩)
  clear hK K
  (try simp only [Act.put, List.setIfInBounds_toArray, List.set_cons_zero, List.set_cons_succ])
  refine wpAnyH_done (by kernel_rfl) ?_ _
  have fin := aw3.put hka3 Sp.all
  go_wp2
  refine ret_of ?_ rfl
  refine ⟨_, by simp [results, Tryd.results29, go_sem] <;> rfl, rfl, ⟨_, fin.row, by simp [hr], fun _ h => Option.some.inj h⟩, fin.gr⟩
set_option maxHeartbeats 4000000 in
theorem away_11_ttf (m : ModD) (f : FuncD) (frm ka kb : Nat) (to c n : Int) (hf : frm < f.code.length) (hx : nthX f.code frm = ⟨11, ((ka : Nat) : Int), ((kb : Nat) : Int), c, n⟩) (hl : f.code.length * 40 ≤ 140737488351232) (g nr cp : Nat) (r : List Sp) (hr : r.length = nr) (hc : nr ≤ cp) (hcp : cp ≤ maxLen) (sa : Sp) (ha : r[ka]? = some sa) (sb : Sp) (hb : r[kb]? = some sb) (hn : In64 n) (hm : 0 ≤ f.words ∧ f.words ≤ 4096) (hwk : wordsOk n f.words = true) (hmk : sb.meetOk (wordsS n f.words) = true) (hto : (to == n) = false) (w : World) (hI : InsAt w w.heap.size f.ca f.code) (hR : RowS w g cp r) :
    Calls Tryd.prog 29 #[m.val, f.val, .int .i64 frm, .int .i64 to, .slice (some ⟨g, 0, none⟩) nr cp] w (AwayOk g cp nr (some ((r.set kb (sb.meet (wordsS n f.words))).set ka Sp.all)) w) := by
  obtain ⟨cb, co, hca, hcb, hcc⟩ := hI (by omega)
  have x0 := hcc frm hf 0 (by omega)
  have x1 := hcc frm hf 1 (by omega)
  have x2 := hcc frm hf 2 (by omega)
  have x3 := hcc frm hf 3 (by omega)
  have x4 := hcc frm hf 4 (by omega)
  simp only [hx, insV, Nat.add_zero] at x0 x1 x2 x3 x4
  obtain ⟨nm, pa, pc, ps, rg, wd, ca, cc, cd⟩ := f
  simp only at hca hf hl hx hm hwk ⊢
  simp only at hmk
  subst hca
  obtain ⟨hka, ya0, ya1, fa0, fa1⟩ := hR.cells4 ha
  have hna : ((ka : Nat) : Int) < (nr : Int) := by omega
  obtain ⟨hkb, yb0, yb1, fb0, fb1⟩ := hR.cells4 hb
  have hnb : ((kb : Nat) : Int) < (nr : Int) := by omega
  have lg := hR.lt
  have hfr : ((frm : Nat) : Int) < (cd.length : Int) := by omega
  unfold maxLen at hcp
  have HR := Lib.hid hR
  clear hcc hx hR
  go_enter Tryd.func29, Tryd.ntmps29
  go_wp2_with fail
  generalize hW : ((((w.alloc (.cells #[.slice m.ta m.ths.length m.tc, .slice m.fa m.funcs.length m.fc] 25)).alloc (.cells #[.string nm, .slice pa ps.length pc, .int .i64 rg, .int .i64 wd, .slice (some ⟨cb, co, none⟩) cd.length cc] 48)).alloc (.cells #[.slice (some ⟨g, 0, none⟩) nr cp] 26)).alloc (.cells #[.int .i64 11, .int .i64 ((ka : Nat) : Int), .int .i64 ((kb : Nat) : Int), .int .i64 c, .int .i64 n] 65)) = W
  have aw : AwW w W g nr cp r ⟨11, ka, kb, c, n⟩ wd (.slice m.fa m.funcs.length m.fc) := by
    rw [← hW]; exact AwW.new (x := ⟨11, ka, kb, c, n⟩) HR.out _ _ _ _ _ _ _ _ _
  clear hW x0 x1 x2 x3 x4
  have hsz := aw.size
  go_at_call 57
  refine (wordsP n wd hn hm _).mono ?_
  rintro e w1 ⟨⟨a1, rfl, ha1⟩, hb1⟩
  rw [hwk] at ha1 ⊢
  obtain rfl := ha1 rfl
  clear ha1
  have aw1 := AwW.alloc (AwW.below aw hb1) (.cells #[.int .i64 (wordsS n wd).lo, .int .i64 (wordsS n wd).hi] 34)
  have f2 := aw1.x2
  have f0 := aw1.x0
  clear hb1
  go_wp2_with fail
  go_at_call 53
  refine (meetAw (wordsS n wd) sb kb g nr cp r hr (by unfold maxLen; omega) hc hb w _ _ _ _ aw1).mono ?_
  rintro e w2 ⟨rfl, aw2⟩
  rw [hmk]
  have e0 := aw2.x0
  have e1 := aw2.x1
  have eb := aw2.rb
  have hrl : (r.set kb (sb.meet (wordsS n wd))).length = nr := by simp [hr]
  have hat : ∃ s, (r.set kb (sb.meet (wordsS n wd)))[ka]? = some s := ⟨_, List.getElem?_eq_getElem (by simp; omega)⟩
  clear aw aw1 f0 f2
  go_wp2
  have HS : ∀ w', (∃ r', r'.length = nr ∧ AwW w w' g nr cp r' ⟨11, ka, kb, c, n⟩ wd (.slice m.fa m.funcs.length m.fc)) → (w'.cell? ⟨w.heap.size + 1 + 1 + 1, 1, none⟩ = some (.int .i64 ka) ∧ w'.cell? ⟨w.heap.size + 1 + 1, 0, none⟩ = some (.slice (some ⟨g, 0, none⟩) nr cp)) ∧ ∃ r', r'.length = nr ∧ AwW w w' g nr cp r' ⟨11, ka, kb, c, n⟩ wd (.slice m.fa m.funcs.length m.fc) := fun w' ⟨r', hr', h⟩ => ⟨⟨h.x1, h.rb⟩, r', hr', h⟩
  refine wp_region_held_drew (S := (fun w' => (w'.cell? ⟨w.heap.size + 1 + 1 + 1, 1, none⟩ = some (.int .i64 ka) ∧ w'.cell? ⟨w.heap.size + 1 + 1, 0, none⟩ = some (.slice (some ⟨g, 0, none⟩) nr cp)) ∧ ∃ r', r'.length = nr ∧ AwW w w' g nr cp r' ⟨11, ka, kb, c, n⟩ wd (.slice m.fa m.funcs.length m.fc))) (by kernel_rfl) ?_ (fun hHeld => ?_)
  · (exact HS _ ⟨_, hrl, aw2.drew⟩)
  refine wpAnyH_take (i := 0) (v := ?_) rfl (by kernel_rfl) (by kernel_rfl) (by kernel_rfl) (fun _ _ _ h => h) (Or.inl ⟨by rfl, ?_⟩) (by assumption) ?_
  rotate_left
  · (intro w' hSw; (try dsimp only at hSw); go_simp <;> with_reducible rfl)
  (try simp only [Act.put, List.setIfInBounds_toArray, List.set_cons_zero, List.set_cons_succ])
  refine wpAnyH_take (i := 1) (v := ?_) rfl (by kernel_rfl) (by kernel_rfl) (by kernel_rfl) (fun _ _ _ h => h) (Or.inl ⟨by rfl, ?_⟩) (by assumption) ?_
  rotate_left
  · (intro w' hSw; (try dsimp only at hSw); go_simp <;> with_reducible rfl)
  (try simp only [Act.put, List.setIfInBounds_toArray, List.set_cons_zero, List.set_cons_succ])
  refine wpAnyH_take (i := 2) (v := ?_) rfl (by kernel_rfl) (by kernel_rfl) (by kernel_rfl) (fun _ _ _ h => h) (Or.inl ⟨by rfl, ?_⟩) (by assumption) ?_
  rotate_left
  · (intro w' hSw; (try dsimp only at hSw); go_simp <;> with_reducible rfl)
  (try simp only [Act.put, List.setIfInBounds_toArray, List.set_cons_zero, List.set_cons_succ])
  refine wpAnyH_ready (rs := [3]) (by kernel_rfl) (by simp) ?_
  refine AllReadyH.cons rfl (fun K hK => ?_) AllReadyH.nil
  go_simp; go_at_call 58; refine (allP _).mono ?_; rintro e w3 ⟨rfl, hb3⟩; go_wp2_with fail; have hs3 := hb3.size; have aw3 := AwW.below aw2.drew hb3; obtain ⟨sx3, hsx3⟩ := hat; obtain ⟨hka3, g0, g1, h0, h1⟩ := aw3.row.cells4 hsx3
  refine hK.out _ _ ?_ (fun hHeld => ?_)
  · (exact HS _ ⟨_, hrl, aw3⟩)
  clear hK K
  (try simp only [Act.put, List.setIfInBounds_toArray, List.set_cons_zero, List.set_cons_succ])
  refine wpAnyH_take (i := 4) (v := ?_) rfl (by kernel_rfl) (by kernel_rfl) (by kernel_rfl) (fun _ _ _ h => h) (Or.inl ⟨by rfl, ?_⟩) (by assumption) ?_
  rotate_left
  · (intro w' hSw; (try dsimp only at hSw); go_simp <;> with_reducible rfl)
  (try simp only [Act.put, List.setIfInBounds_toArray, List.set_cons_zero, List.set_cons_succ])
  refine wpAnyH_ready (rs := [5]) (by kernel_rfl) (by simp) ?_
  refine AllReadyH.cons rfl (fun K hK => ?_) AllReadyH.nil
  go_simp
  refine hK.out _ _ ?_ (fun hHeld => ?_)
  · (exact HS _ ⟨_, by simp [hrl], AwW.put aw3 hka3 Sp.all⟩)
  clear hK K
  (try simp only [Act.put, List.setIfInBounds_toArray, List.set_cons_zero, List.set_cons_succ])
  refine wpAnyH_done (by kernel_rfl) ?_ _
  have fin := aw3.put hka3 Sp.all
  go_wp2
  refine ret_of ?_ rfl
  refine ⟨_, by simp [results, Tryd.results29, go_sem] <;> rfl, rfl, ⟨_, fin.row, by simp [hr], fun _ h => Option.some.inj h⟩, fin.gr⟩
set_option maxHeartbeats 4000000 in
theorem away_11_tft (m : ModD) (f : FuncD) (frm ka kb : Nat) (to c n : Int) (hf : frm < f.code.length) (hx : nthX f.code frm = ⟨11, ((ka : Nat) : Int), ((kb : Nat) : Int), c, n⟩) (hl : f.code.length * 40 ≤ 140737488351232) (g nr cp : Nat) (r : List Sp) (hr : r.length = nr) (hc : nr ≤ cp) (hcp : cp ≤ maxLen) (sa : Sp) (ha : r[ka]? = some sa) (sb : Sp) (hb : r[kb]? = some sb) (hn : In64 n) (hm : 0 ≤ f.words ∧ f.words ≤ 4096) (hwk : wordsOk n f.words = true) (hmk : sb.meetOk (wordsS n f.words) = false) (hto : (to == n) = true) (w : World) (hI : InsAt w w.heap.size f.ca f.code) (hR : RowS w g cp r) :
    Calls Tryd.prog 29 #[m.val, f.val, .int .i64 frm, .int .i64 to, .slice (some ⟨g, 0, none⟩) nr cp] w (AwayOk g cp nr none w) := by
  obtain ⟨cb, co, hca, hcb, hcc⟩ := hI (by omega)
  have x0 := hcc frm hf 0 (by omega)
  have x1 := hcc frm hf 1 (by omega)
  have x2 := hcc frm hf 2 (by omega)
  have x3 := hcc frm hf 3 (by omega)
  have x4 := hcc frm hf 4 (by omega)
  simp only [hx, insV, Nat.add_zero] at x0 x1 x2 x3 x4
  obtain ⟨nm, pa, pc, ps, rg, wd, ca, cc, cd⟩ := f
  simp only at hca hf hl hx hm hwk ⊢
  simp only at hmk
  subst hca
  obtain ⟨hka, ya0, ya1, fa0, fa1⟩ := hR.cells4 ha
  have hna : ((ka : Nat) : Int) < (nr : Int) := by omega
  obtain ⟨hkb, yb0, yb1, fb0, fb1⟩ := hR.cells4 hb
  have hnb : ((kb : Nat) : Int) < (nr : Int) := by omega
  have lg := hR.lt
  have hfr : ((frm : Nat) : Int) < (cd.length : Int) := by omega
  unfold maxLen at hcp
  have HR := Lib.hid hR
  clear hcc hx hR
  go_enter Tryd.func29, Tryd.ntmps29
  go_wp2_with fail
  generalize hW : ((((w.alloc (.cells #[.slice m.ta m.ths.length m.tc, .slice m.fa m.funcs.length m.fc] 25)).alloc (.cells #[.string nm, .slice pa ps.length pc, .int .i64 rg, .int .i64 wd, .slice (some ⟨cb, co, none⟩) cd.length cc] 48)).alloc (.cells #[.slice (some ⟨g, 0, none⟩) nr cp] 26)).alloc (.cells #[.int .i64 11, .int .i64 ((ka : Nat) : Int), .int .i64 ((kb : Nat) : Int), .int .i64 c, .int .i64 n] 65)) = W
  have aw : AwW w W g nr cp r ⟨11, ka, kb, c, n⟩ wd (.slice m.fa m.funcs.length m.fc) := by
    rw [← hW]; exact AwW.new (x := ⟨11, ka, kb, c, n⟩) HR.out _ _ _ _ _ _ _ _ _
  clear hW x0 x1 x2 x3 x4
  have hsz := aw.size
  go_at_call 57
  refine (wordsP n wd hn hm _).mono ?_
  rintro e w1 ⟨⟨a1, rfl, ha1⟩, hb1⟩
  rw [hwk] at ha1 ⊢
  obtain rfl := ha1 rfl
  clear ha1
  have aw1 := AwW.alloc (AwW.below aw hb1) (.cells #[.int .i64 (wordsS n wd).lo, .int .i64 (wordsS n wd).hi] 34)
  have f2 := aw1.x2
  have f0 := aw1.x0
  clear hb1
  go_wp2_with fail
  go_at_call 53
  refine (meetAw (wordsS n wd) sb kb g nr cp r hr (by unfold maxLen; omega) hc hb w _ _ _ _ aw1).mono ?_
  rintro e w2 ⟨rfl, aw2⟩
  rw [hmk]
  have e0 := aw2.x0
  have e1 := aw2.x1
  have eb := aw2.rb
  clear aw aw1 f0 f2
  go_wp2
  refine ret_of ?_ rfl
  refine ⟨_, by simp [results, Tryd.results29, go_sem] <;> rfl, rfl, ⟨_, aw2.row, by simp [hr], fun _ h => by cases h⟩, aw2.gr⟩
set_option maxHeartbeats 4000000 in
theorem away_11_tff (m : ModD) (f : FuncD) (frm ka kb : Nat) (to c n : Int) (hf : frm < f.code.length) (hx : nthX f.code frm = ⟨11, ((ka : Nat) : Int), ((kb : Nat) : Int), c, n⟩) (hl : f.code.length * 40 ≤ 140737488351232) (g nr cp : Nat) (r : List Sp) (hr : r.length = nr) (hc : nr ≤ cp) (hcp : cp ≤ maxLen) (sa : Sp) (ha : r[ka]? = some sa) (sb : Sp) (hb : r[kb]? = some sb) (hn : In64 n) (hm : 0 ≤ f.words ∧ f.words ≤ 4096) (hwk : wordsOk n f.words = true) (hmk : sb.meetOk (wordsS n f.words) = false) (hto : (to == n) = false) (w : World) (hI : InsAt w w.heap.size f.ca f.code) (hR : RowS w g cp r) :
    Calls Tryd.prog 29 #[m.val, f.val, .int .i64 frm, .int .i64 to, .slice (some ⟨g, 0, none⟩) nr cp] w (AwayOk g cp nr none w) := by
  obtain ⟨cb, co, hca, hcb, hcc⟩ := hI (by omega)
  have x0 := hcc frm hf 0 (by omega)
  have x1 := hcc frm hf 1 (by omega)
  have x2 := hcc frm hf 2 (by omega)
  have x3 := hcc frm hf 3 (by omega)
  have x4 := hcc frm hf 4 (by omega)
  simp only [hx, insV, Nat.add_zero] at x0 x1 x2 x3 x4
  obtain ⟨nm, pa, pc, ps, rg, wd, ca, cc, cd⟩ := f
  simp only at hca hf hl hx hm hwk ⊢
  simp only at hmk
  subst hca
  obtain ⟨hka, ya0, ya1, fa0, fa1⟩ := hR.cells4 ha
  have hna : ((ka : Nat) : Int) < (nr : Int) := by omega
  obtain ⟨hkb, yb0, yb1, fb0, fb1⟩ := hR.cells4 hb
  have hnb : ((kb : Nat) : Int) < (nr : Int) := by omega
  have lg := hR.lt
  have hfr : ((frm : Nat) : Int) < (cd.length : Int) := by omega
  unfold maxLen at hcp
  have HR := Lib.hid hR
  clear hcc hx hR
  go_enter Tryd.func29, Tryd.ntmps29
  go_wp2_with fail
  generalize hW : ((((w.alloc (.cells #[.slice m.ta m.ths.length m.tc, .slice m.fa m.funcs.length m.fc] 25)).alloc (.cells #[.string nm, .slice pa ps.length pc, .int .i64 rg, .int .i64 wd, .slice (some ⟨cb, co, none⟩) cd.length cc] 48)).alloc (.cells #[.slice (some ⟨g, 0, none⟩) nr cp] 26)).alloc (.cells #[.int .i64 11, .int .i64 ((ka : Nat) : Int), .int .i64 ((kb : Nat) : Int), .int .i64 c, .int .i64 n] 65)) = W
  have aw : AwW w W g nr cp r ⟨11, ka, kb, c, n⟩ wd (.slice m.fa m.funcs.length m.fc) := by
    rw [← hW]; exact AwW.new (x := ⟨11, ka, kb, c, n⟩) HR.out _ _ _ _ _ _ _ _ _
  clear hW x0 x1 x2 x3 x4
  have hsz := aw.size
  go_at_call 57
  refine (wordsP n wd hn hm _).mono ?_
  rintro e w1 ⟨⟨a1, rfl, ha1⟩, hb1⟩
  rw [hwk] at ha1 ⊢
  obtain rfl := ha1 rfl
  clear ha1
  have aw1 := AwW.alloc (AwW.below aw hb1) (.cells #[.int .i64 (wordsS n wd).lo, .int .i64 (wordsS n wd).hi] 34)
  have f2 := aw1.x2
  have f0 := aw1.x0
  clear hb1
  go_wp2_with fail
  go_at_call 53
  refine (meetAw (wordsS n wd) sb kb g nr cp r hr (by unfold maxLen; omega) hc hb w _ _ _ _ aw1).mono ?_
  rintro e w2 ⟨rfl, aw2⟩
  rw [hmk]
  have e0 := aw2.x0
  have e1 := aw2.x1
  have eb := aw2.rb
  clear aw aw1 f0 f2
  go_wp2
  refine ret_of ?_ rfl
  refine ⟨_, by simp [results, Tryd.results29, go_sem] <;> rfl, rfl, ⟨_, aw2.row, by simp [hr], fun _ h => by cases h⟩, aw2.gr⟩
set_option maxHeartbeats 4000000 in
theorem away_11_fft (m : ModD) (f : FuncD) (frm ka kb : Nat) (to c n : Int) (hf : frm < f.code.length) (hx : nthX f.code frm = ⟨11, ((ka : Nat) : Int), ((kb : Nat) : Int), c, n⟩) (hl : f.code.length * 40 ≤ 140737488351232) (g nr cp : Nat) (r : List Sp) (hr : r.length = nr) (hc : nr ≤ cp) (hcp : cp ≤ maxLen) (sa : Sp) (ha : r[ka]? = some sa) (sb : Sp) (hb : r[kb]? = some sb) (hn : In64 n) (hm : 0 ≤ f.words ∧ f.words ≤ 4096) (hwk : wordsOk n f.words = false) (hto : (to == n) = true) (w : World) (hI : InsAt w w.heap.size f.ca f.code) (hR : RowS w g cp r) :
    Calls Tryd.prog 29 #[m.val, f.val, .int .i64 frm, .int .i64 to, .slice (some ⟨g, 0, none⟩) nr cp] w (AwayOk g cp nr none w) := by
  obtain ⟨cb, co, hca, hcb, hcc⟩ := hI (by omega)
  have x0 := hcc frm hf 0 (by omega)
  have x1 := hcc frm hf 1 (by omega)
  have x2 := hcc frm hf 2 (by omega)
  have x3 := hcc frm hf 3 (by omega)
  have x4 := hcc frm hf 4 (by omega)
  simp only [hx, insV, Nat.add_zero] at x0 x1 x2 x3 x4
  obtain ⟨nm, pa, pc, ps, rg, wd, ca, cc, cd⟩ := f
  simp only at hca hf hl hx hm hwk ⊢
  subst hca
  obtain ⟨hka, ya0, ya1, fa0, fa1⟩ := hR.cells4 ha
  have hna : ((ka : Nat) : Int) < (nr : Int) := by omega
  obtain ⟨hkb, yb0, yb1, fb0, fb1⟩ := hR.cells4 hb
  have hnb : ((kb : Nat) : Int) < (nr : Int) := by omega
  have lg := hR.lt
  have hfr : ((frm : Nat) : Int) < (cd.length : Int) := by omega
  unfold maxLen at hcp
  have HR := Lib.hid hR
  clear hcc hx hR
  go_enter Tryd.func29, Tryd.ntmps29
  go_wp2_with fail
  generalize hW : ((((w.alloc (.cells #[.slice m.ta m.ths.length m.tc, .slice m.fa m.funcs.length m.fc] 25)).alloc (.cells #[.string nm, .slice pa ps.length pc, .int .i64 rg, .int .i64 wd, .slice (some ⟨cb, co, none⟩) cd.length cc] 48)).alloc (.cells #[.slice (some ⟨g, 0, none⟩) nr cp] 26)).alloc (.cells #[.int .i64 11, .int .i64 ((ka : Nat) : Int), .int .i64 ((kb : Nat) : Int), .int .i64 c, .int .i64 n] 65)) = W
  have aw : AwW w W g nr cp r ⟨11, ka, kb, c, n⟩ wd (.slice m.fa m.funcs.length m.fc) := by
    rw [← hW]; exact AwW.new (x := ⟨11, ka, kb, c, n⟩) HR.out _ _ _ _ _ _ _ _ _
  clear hW x0 x1 x2 x3 x4
  have hsz := aw.size
  go_at_call 57
  refine (wordsP n wd hn hm _).mono ?_
  rintro e w1 ⟨⟨a1, rfl, ha1⟩, hb1⟩
  have aw1 := AwW.alloc (AwW.below aw hb1) (.cells #[.int .i64 a1.lo, .int .i64 a1.hi] 34)
  clear ha1
  rw [hwk]
  go_wp2
  refine ret_of ?_ rfl
  refine ⟨_, by simp [results, Tryd.results29, go_sem] <;> rfl, rfl, ⟨_, aw1.row, by simp [hr], fun _ h => by cases h⟩, aw1.gr⟩
set_option maxHeartbeats 4000000 in
theorem away_11_fff (m : ModD) (f : FuncD) (frm ka kb : Nat) (to c n : Int) (hf : frm < f.code.length) (hx : nthX f.code frm = ⟨11, ((ka : Nat) : Int), ((kb : Nat) : Int), c, n⟩) (hl : f.code.length * 40 ≤ 140737488351232) (g nr cp : Nat) (r : List Sp) (hr : r.length = nr) (hc : nr ≤ cp) (hcp : cp ≤ maxLen) (sa : Sp) (ha : r[ka]? = some sa) (sb : Sp) (hb : r[kb]? = some sb) (hn : In64 n) (hm : 0 ≤ f.words ∧ f.words ≤ 4096) (hwk : wordsOk n f.words = false) (hto : (to == n) = false) (w : World) (hI : InsAt w w.heap.size f.ca f.code) (hR : RowS w g cp r) :
    Calls Tryd.prog 29 #[m.val, f.val, .int .i64 frm, .int .i64 to, .slice (some ⟨g, 0, none⟩) nr cp] w (AwayOk g cp nr none w) := by
  obtain ⟨cb, co, hca, hcb, hcc⟩ := hI (by omega)
  have x0 := hcc frm hf 0 (by omega)
  have x1 := hcc frm hf 1 (by omega)
  have x2 := hcc frm hf 2 (by omega)
  have x3 := hcc frm hf 3 (by omega)
  have x4 := hcc frm hf 4 (by omega)
  simp only [hx, insV, Nat.add_zero] at x0 x1 x2 x3 x4
  obtain ⟨nm, pa, pc, ps, rg, wd, ca, cc, cd⟩ := f
  simp only at hca hf hl hx hm hwk ⊢
  subst hca
  obtain ⟨hka, ya0, ya1, fa0, fa1⟩ := hR.cells4 ha
  have hna : ((ka : Nat) : Int) < (nr : Int) := by omega
  obtain ⟨hkb, yb0, yb1, fb0, fb1⟩ := hR.cells4 hb
  have hnb : ((kb : Nat) : Int) < (nr : Int) := by omega
  have lg := hR.lt
  have hfr : ((frm : Nat) : Int) < (cd.length : Int) := by omega
  unfold maxLen at hcp
  have HR := Lib.hid hR
  clear hcc hx hR
  go_enter Tryd.func29, Tryd.ntmps29
  go_wp2_with fail
  generalize hW : ((((w.alloc (.cells #[.slice m.ta m.ths.length m.tc, .slice m.fa m.funcs.length m.fc] 25)).alloc (.cells #[.string nm, .slice pa ps.length pc, .int .i64 rg, .int .i64 wd, .slice (some ⟨cb, co, none⟩) cd.length cc] 48)).alloc (.cells #[.slice (some ⟨g, 0, none⟩) nr cp] 26)).alloc (.cells #[.int .i64 11, .int .i64 ((ka : Nat) : Int), .int .i64 ((kb : Nat) : Int), .int .i64 c, .int .i64 n] 65)) = W
  have aw : AwW w W g nr cp r ⟨11, ka, kb, c, n⟩ wd (.slice m.fa m.funcs.length m.fc) := by
    rw [← hW]; exact AwW.new (x := ⟨11, ka, kb, c, n⟩) HR.out _ _ _ _ _ _ _ _ _
  clear hW x0 x1 x2 x3 x4
  have hsz := aw.size
  go_at_call 57
  refine (wordsP n wd hn hm _).mono ?_
  rintro e w1 ⟨⟨a1, rfl, ha1⟩, hb1⟩
  have aw1 := AwW.alloc (AwW.below aw hb1) (.cells #[.int .i64 a1.lo, .int .i64 a1.hi] 34)
  clear ha1
  rw [hwk]
  go_wp2
  refine ret_of ?_ rfl
  refine ⟨_, by simp [results, Tryd.results29, go_sem] <;> rfl, rfl, ⟨_, aw1.row, by simp [hr], fun _ h => by cases h⟩, aw1.gr⟩
end Go.Proofs.YtddobhneplfddaaDoor

namespace Go.Proofs.YtddobhneplfddaaDoor
set_option maxRecDepth 100000
open Go.RowKit
set_option linter.unusedSimpArgs false
set_option linter.unusedVariables false
set_option maxHeartbeats 4000000 in
theorem away_13_tt (m : ModD) (f : FuncD) (frm ka : Nat) (to b c n : Int) (hf : frm < f.code.length) (hx : nthX f.code frm = ⟨13, ((ka : Nat) : Int), b, c, n⟩) (hl : f.code.length * 40 ≤ 140737488351232) (g nr cp : Nat) (r : List Sp) (hr : r.length = nr) (hc : nr ≤ cp) (hcp : cp ≤ maxLen) (sa : Sp) (ha : r[ka]? = some sa) (hn1 : 1 ≤ n) (hn2 : n ≤ 4096) (hmk : sa.meetOk ⟨0, n - 1⟩ = true) (hto : (to == n) = true) (w : World) (hI : InsAt w w.heap.size f.ca f.code) (hR : RowS w g cp r) :
    Calls Tryd.prog 29 #[m.val, f.val, .int .i64 frm, .int .i64 to, .slice (some ⟨g, 0, none⟩) nr cp] w (AwayOk g cp nr (some (r.set ka (sa.meet ⟨0, n - 1⟩))) w) := by
  obtain ⟨cb, co, hca, hcb, hcc⟩ := hI (by omega)
  have x0 := hcc frm hf 0 (by omega)
  have x1 := hcc frm hf 1 (by omega)
  have x2 := hcc frm hf 2 (by omega)
  have x3 := hcc frm hf 3 (by omega)
  have x4 := hcc frm hf 4 (by omega)
  simp only [hx, insV, Nat.add_zero] at x0 x1 x2 x3 x4
  obtain ⟨nm, pa, pc, ps, rg, wd, ca, cc, cd⟩ := f
  simp only at hca hf hl hx ⊢
  subst hca
  obtain ⟨hka, ya0, ya1, fa0, fa1⟩ := hR.cells4 ha
  have hna : ((ka : Nat) : Int) < (nr : Int) := by omega
  have lg := hR.lt
  have hfr : ((frm : Nat) : Int) < (cd.length : Int) := by omega
  unfold maxLen at hcp
  have HR := Lib.hid hR
  clear hcc hx hR
  go_enter Tryd.func29, Tryd.ntmps29
  go_wp2_with fail
  generalize hW : ((((w.alloc (.cells #[.slice m.ta m.ths.length m.tc, .slice m.fa m.funcs.length m.fc] 25)).alloc (.cells #[.string nm, .slice pa ps.length pc, .int .i64 rg, .int .i64 wd, .slice (some ⟨cb, co, none⟩) cd.length cc] 48)).alloc (.cells #[.slice (some ⟨g, 0, none⟩) nr cp] 26)).alloc (.cells #[.int .i64 13, .int .i64 ((ka : Nat) : Int), .int .i64 b, .int .i64 c, .int .i64 n] 65)) = W
  have aw : AwW w W g nr cp r ⟨13, ka, b, c, n⟩ wd (.slice m.fa m.funcs.length m.fc) := by
    rw [← hW]; exact AwW.new (x := ⟨13, ka, b, c, n⟩) HR.out _ _ _ _ _ _ _ _ _
  clear hW x0 x1 x2 x3 x4
  have hsz := aw.size
  go_at_call 53
  refine (meetAw ⟨0, n - 1⟩ sa ka g nr cp r hr (by unfold maxLen; omega) hc ha w _ _ _ _ aw).mono ?_
  rintro e w2 ⟨rfl, aw1⟩
  rw [hmk]
  go_wp2
  refine ret_of ?_ rfl
  refine ⟨_, by simp [results, Tryd.results29, go_sem] <;> rfl, rfl, ⟨_, aw1.row, by simp [hr], fun _ h => Option.some.inj h⟩, aw1.gr⟩
set_option maxHeartbeats 4000000 in
theorem away_13_tf (m : ModD) (f : FuncD) (frm ka : Nat) (to b c n : Int) (hf : frm < f.code.length) (hx : nthX f.code frm = ⟨13, ((ka : Nat) : Int), b, c, n⟩) (hl : f.code.length * 40 ≤ 140737488351232) (g nr cp : Nat) (r : List Sp) (hr : r.length = nr) (hc : nr ≤ cp) (hcp : cp ≤ maxLen) (sa : Sp) (ha : r[ka]? = some sa) (hn1 : 1 ≤ n) (hn2 : n ≤ 4096) (hmk : sa.meetOk ⟨0, n - 1⟩ = true) (hto : (to == n) = false) (w : World) (hI : InsAt w w.heap.size f.ca f.code) (hR : RowS w g cp r) :
    Calls Tryd.prog 29 #[m.val, f.val, .int .i64 frm, .int .i64 to, .slice (some ⟨g, 0, none⟩) nr cp] w (AwayOk g cp nr (some (r.set ka (sa.meet ⟨0, n - 1⟩))) w) := by
  obtain ⟨cb, co, hca, hcb, hcc⟩ := hI (by omega)
  have x0 := hcc frm hf 0 (by omega)
  have x1 := hcc frm hf 1 (by omega)
  have x2 := hcc frm hf 2 (by omega)
  have x3 := hcc frm hf 3 (by omega)
  have x4 := hcc frm hf 4 (by omega)
  simp only [hx, insV, Nat.add_zero] at x0 x1 x2 x3 x4
  obtain ⟨nm, pa, pc, ps, rg, wd, ca, cc, cd⟩ := f
  simp only at hca hf hl hx ⊢
  subst hca
  obtain ⟨hka, ya0, ya1, fa0, fa1⟩ := hR.cells4 ha
  have hna : ((ka : Nat) : Int) < (nr : Int) := by omega
  have lg := hR.lt
  have hfr : ((frm : Nat) : Int) < (cd.length : Int) := by omega
  unfold maxLen at hcp
  have HR := Lib.hid hR
  clear hcc hx hR
  go_enter Tryd.func29, Tryd.ntmps29
  go_wp2_with fail
  generalize hW : ((((w.alloc (.cells #[.slice m.ta m.ths.length m.tc, .slice m.fa m.funcs.length m.fc] 25)).alloc (.cells #[.string nm, .slice pa ps.length pc, .int .i64 rg, .int .i64 wd, .slice (some ⟨cb, co, none⟩) cd.length cc] 48)).alloc (.cells #[.slice (some ⟨g, 0, none⟩) nr cp] 26)).alloc (.cells #[.int .i64 13, .int .i64 ((ka : Nat) : Int), .int .i64 b, .int .i64 c, .int .i64 n] 65)) = W
  have aw : AwW w W g nr cp r ⟨13, ka, b, c, n⟩ wd (.slice m.fa m.funcs.length m.fc) := by
    rw [← hW]; exact AwW.new (x := ⟨13, ka, b, c, n⟩) HR.out _ _ _ _ _ _ _ _ _
  clear hW x0 x1 x2 x3 x4
  have hsz := aw.size
  go_at_call 53
  refine (meetAw ⟨0, n - 1⟩ sa ka g nr cp r hr (by unfold maxLen; omega) hc ha w _ _ _ _ aw).mono ?_
  rintro e w2 ⟨rfl, aw1⟩
  rw [hmk]
  go_wp2
  refine ret_of ?_ rfl
  refine ⟨_, by simp [results, Tryd.results29, go_sem] <;> rfl, rfl, ⟨_, aw1.row, by simp [hr], fun _ h => Option.some.inj h⟩, aw1.gr⟩
set_option maxHeartbeats 4000000 in
theorem away_13_ft (m : ModD) (f : FuncD) (frm ka : Nat) (to b c n : Int) (hf : frm < f.code.length) (hx : nthX f.code frm = ⟨13, ((ka : Nat) : Int), b, c, n⟩) (hl : f.code.length * 40 ≤ 140737488351232) (g nr cp : Nat) (r : List Sp) (hr : r.length = nr) (hc : nr ≤ cp) (hcp : cp ≤ maxLen) (sa : Sp) (ha : r[ka]? = some sa) (hn1 : 1 ≤ n) (hn2 : n ≤ 4096) (hmk : sa.meetOk ⟨0, n - 1⟩ = false) (hto : (to == n) = true) (w : World) (hI : InsAt w w.heap.size f.ca f.code) (hR : RowS w g cp r) :
    Calls Tryd.prog 29 #[m.val, f.val, .int .i64 frm, .int .i64 to, .slice (some ⟨g, 0, none⟩) nr cp] w (AwayOk g cp nr none w) := by
  obtain ⟨cb, co, hca, hcb, hcc⟩ := hI (by omega)
  have x0 := hcc frm hf 0 (by omega)
  have x1 := hcc frm hf 1 (by omega)
  have x2 := hcc frm hf 2 (by omega)
  have x3 := hcc frm hf 3 (by omega)
  have x4 := hcc frm hf 4 (by omega)
  simp only [hx, insV, Nat.add_zero] at x0 x1 x2 x3 x4
  obtain ⟨nm, pa, pc, ps, rg, wd, ca, cc, cd⟩ := f
  simp only at hca hf hl hx ⊢
  subst hca
  obtain ⟨hka, ya0, ya1, fa0, fa1⟩ := hR.cells4 ha
  have hna : ((ka : Nat) : Int) < (nr : Int) := by omega
  have lg := hR.lt
  have hfr : ((frm : Nat) : Int) < (cd.length : Int) := by omega
  unfold maxLen at hcp
  have HR := Lib.hid hR
  clear hcc hx hR
  go_enter Tryd.func29, Tryd.ntmps29
  go_wp2_with fail
  generalize hW : ((((w.alloc (.cells #[.slice m.ta m.ths.length m.tc, .slice m.fa m.funcs.length m.fc] 25)).alloc (.cells #[.string nm, .slice pa ps.length pc, .int .i64 rg, .int .i64 wd, .slice (some ⟨cb, co, none⟩) cd.length cc] 48)).alloc (.cells #[.slice (some ⟨g, 0, none⟩) nr cp] 26)).alloc (.cells #[.int .i64 13, .int .i64 ((ka : Nat) : Int), .int .i64 b, .int .i64 c, .int .i64 n] 65)) = W
  have aw : AwW w W g nr cp r ⟨13, ka, b, c, n⟩ wd (.slice m.fa m.funcs.length m.fc) := by
    rw [← hW]; exact AwW.new (x := ⟨13, ka, b, c, n⟩) HR.out _ _ _ _ _ _ _ _ _
  clear hW x0 x1 x2 x3 x4
  have hsz := aw.size
  go_at_call 53
  refine (meetAw ⟨0, n - 1⟩ sa ka g nr cp r hr (by unfold maxLen; omega) hc ha w _ _ _ _ aw).mono ?_
  rintro e w2 ⟨rfl, aw1⟩
  rw [hmk]
  go_wp2
  refine ret_of ?_ rfl
  refine ⟨_, by simp [results, Tryd.results29, go_sem] <;> rfl, rfl, ⟨_, aw1.row, by simp [hr], fun _ h => by cases h⟩, aw1.gr⟩
set_option maxHeartbeats 4000000 in
theorem away_13_ff (m : ModD) (f : FuncD) (frm ka : Nat) (to b c n : Int) (hf : frm < f.code.length) (hx : nthX f.code frm = ⟨13, ((ka : Nat) : Int), b, c, n⟩) (hl : f.code.length * 40 ≤ 140737488351232) (g nr cp : Nat) (r : List Sp) (hr : r.length = nr) (hc : nr ≤ cp) (hcp : cp ≤ maxLen) (sa : Sp) (ha : r[ka]? = some sa) (hn1 : 1 ≤ n) (hn2 : n ≤ 4096) (hmk : sa.meetOk ⟨0, n - 1⟩ = false) (hto : (to == n) = false) (w : World) (hI : InsAt w w.heap.size f.ca f.code) (hR : RowS w g cp r) :
    Calls Tryd.prog 29 #[m.val, f.val, .int .i64 frm, .int .i64 to, .slice (some ⟨g, 0, none⟩) nr cp] w (AwayOk g cp nr none w) := by
  obtain ⟨cb, co, hca, hcb, hcc⟩ := hI (by omega)
  have x0 := hcc frm hf 0 (by omega)
  have x1 := hcc frm hf 1 (by omega)
  have x2 := hcc frm hf 2 (by omega)
  have x3 := hcc frm hf 3 (by omega)
  have x4 := hcc frm hf 4 (by omega)
  simp only [hx, insV, Nat.add_zero] at x0 x1 x2 x3 x4
  obtain ⟨nm, pa, pc, ps, rg, wd, ca, cc, cd⟩ := f
  simp only at hca hf hl hx ⊢
  subst hca
  obtain ⟨hka, ya0, ya1, fa0, fa1⟩ := hR.cells4 ha
  have hna : ((ka : Nat) : Int) < (nr : Int) := by omega
  have lg := hR.lt
  have hfr : ((frm : Nat) : Int) < (cd.length : Int) := by omega
  unfold maxLen at hcp
  have HR := Lib.hid hR
  clear hcc hx hR
  go_enter Tryd.func29, Tryd.ntmps29
  go_wp2_with fail
  generalize hW : ((((w.alloc (.cells #[.slice m.ta m.ths.length m.tc, .slice m.fa m.funcs.length m.fc] 25)).alloc (.cells #[.string nm, .slice pa ps.length pc, .int .i64 rg, .int .i64 wd, .slice (some ⟨cb, co, none⟩) cd.length cc] 48)).alloc (.cells #[.slice (some ⟨g, 0, none⟩) nr cp] 26)).alloc (.cells #[.int .i64 13, .int .i64 ((ka : Nat) : Int), .int .i64 b, .int .i64 c, .int .i64 n] 65)) = W
  have aw : AwW w W g nr cp r ⟨13, ka, b, c, n⟩ wd (.slice m.fa m.funcs.length m.fc) := by
    rw [← hW]; exact AwW.new (x := ⟨13, ka, b, c, n⟩) HR.out _ _ _ _ _ _ _ _ _
  clear hW x0 x1 x2 x3 x4
  have hsz := aw.size
  go_at_call 53
  refine (meetAw ⟨0, n - 1⟩ sa ka g nr cp r hr (by unfold maxLen; omega) hc ha w _ _ _ _ aw).mono ?_
  rintro e w2 ⟨rfl, aw1⟩
  rw [hmk]
  go_wp2
  refine ret_of ?_ rfl
  refine ⟨_, by simp [results, Tryd.results29, go_sem] <;> rfl, rfl, ⟨_, aw1.row, by simp [hr], fun _ h => by cases h⟩, aw1.gr⟩
end Go.Proofs.YtddobhneplfddaaDoor
