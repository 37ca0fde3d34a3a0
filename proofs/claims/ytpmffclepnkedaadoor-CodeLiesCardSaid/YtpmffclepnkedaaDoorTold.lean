/-
  Layer 9 (code): the law's told: an instruction's registers are told as the reference does, as far as somebody asks.
-/
import Derived.Test.YtpmffclepnkedaaDoorReadsJ
import Derived.RangeFuncFrom
namespace Go.Proofs.YtpmffclepnkedaaDoor
open Go.RowKit Go.Shelf
set_option linter.unusedSimpArgs false
set_option linter.unusedVariables false
attribute [local go_sem] Oper.semAt_some

theorem callN_le (p : Int) : callN p ≤ 8 := by unfold callN; split <;> (try split) <;> omega
/-- At most eight registers are read. -/
theorem readsD_len (x : InsD) (p : Int) : (readsD x p).length ≤ 8 := by
  unfold readsD
  split
  · simp only [List.length_map, List.length_range]; exact callN_le p
  · split
    · (repeat' split) <;> simp
    · simp
/-- What lies in memory while the registers come. -/
structure TMem (w w1 : World) (stop : Int) (A : Option Addr) (cp : Nat) (R : List Int) (at_ : Int) (res : Bool) (W : World) : Prop where
  below : Below w.heap.size w W
  bs : Whl W (w.heap.size + 1) 3 #[.int .i64 stop]
  br : Whl W (w.heap.size + 1 + 1) 4 #[.bool res]
  bw : Whl W w1.heap.size 56 #[.slice A R.length cp]
  ba : Whl W (w1.heap.size + 1) 3 #[.int .i64 at_]
  ints : IntsAt W w1.heap.size A R
theorem TMem.put {w w1 W : World} {stop : Int} {A : Option Addr} {cp : Nat} {R : List Int} {at_ at2 : Int} {res : Bool} {v : Value} (h : TMem w w1 stop A cp R at_ res W) (hs : w.heap.size + 1 + 1 < w1.heap.size) (hv : v = .int .i64 at2) : TMem w w1 stop A cp R at2 res (W.setCell ⟨w1.heap.size + 1, 0, none⟩ v) := by
  subst hv
  exact ⟨h.below.setCell (by simp; omega) _, h.bs.far (by simp; omega) _, h.br.far (by simp; omega) _, h.bw.far (by simp) _, by simpa using h.ba.put 0 (.int .i64 at2), h.ints.below ((Below.refl w1.heap.size W).setCell (by simp) _) (Nat.le_refl _)⟩
theorem keepI_put {w w1 W : World} (hs : w.heap.size ≤ w1.heap.size) (v : Value) : KeepI w.heap.size (w1.heap.size + 1 + 1) W (W.setCell ⟨w1.heap.size + 1, 0, none⟩ v) :=
  ⟨(Below.refl _ W).setCell (by simp; omega) _, fun k o hk ho _ => (Below.heap_setCell W ⟨w1.heap.size + 1, 0, none⟩ v k (by simp; omega)).trans ho⟩
theorem pre_next {pre R : List Int} {y : Int} (h : pre ++ [y] <+: R) : nthI R pre.length = y := by
  obtain ⟨t, rfl⟩ := h
  simp [nthI]
theorem pre_snoc {pre R : List Int} {y : Int} (h : pre <+: R) (hl : pre.length < R.length) (hy : y = nthI R pre.length) : pre ++ [y] <+: R := by
  obtain ⟨t, rfl⟩ := h
  cases t with
  | nil => simp at hl
  | cons z t =>
    have : y = z := by rw [hy]; simp [nthI]
    subst this
    exact ⟨t, by simp⟩
theorem whl_ne_row {W : World} {g : Nat} {t : TypeId} {cs : Array Value} {row : Option Nat} {B : Nat} (h : Whl W g t cs) (hr : ∀ r, row = some r → B ≤ r ∧ ∃ o : Obj, W.heap[r]? = some o ∧ o.isCells = false) : some g ≠ row := fun e => by
  obtain ⟨_, o, ho, hc⟩ := hr g e.symm
  unfold Whl at h
  rw [h] at ho; cases ho; cases hc
theorem IntsAt.grownR {W W' : World} {B B2 : Nat} {A : Option Addr} {zs : List Int} {row : Option Nat} (h : IntsAt W B A zs) (hg : W.grownBy W' row) (hr : ∀ r, row = some r → B2 ≤ r) (hB : B ≤ B2) : IntsAt W' B A zs := fun h0 => by
  obtain ⟨b, off, e, hlt, hc⟩ := h h0
  refine ⟨b, off, e, hlt, fun k hk => ?_⟩
  have h1 := hc k hk
  have hb := World.block_lt_of_cell? W ⟨b, off + k, none⟩ h1
  have h2 : W'.heap[b]? = W.heap[b]? := hg.block b hb (fun e => by have := hr b e.symm; omega)
  rw [← h1]
  simp only [World.cell?, h2]
theorem TMem.grown {w w1 W W' : World} {stop : Int} {A : Option Addr} {cp : Nat} {R : List Int} {at_ : Int} {res : Bool} {row : Option Nat} {B : Nat} (h : TMem w w1 stop A cp R at_ res W) (hg : W.grownBy W' row) (hw : w.heap.size ≤ B) (hB : w1.heap.size ≤ B)
    (hr : ∀ r, row = some r → B ≤ r ∧ ∃ o : Obj, W.heap[r]? = some o ∧ o.isCells = false) : TMem w w1 stop A cp R at_ res W' :=
  ⟨h.below.grown hg h.below.size (fun k hk => by have := (hr k hk).1; omega), h.bs.grown hg (whl_ne_row h.bs hr), h.br.grown hg (whl_ne_row h.br hr), h.bw.grown hg (whl_ne_row h.bw hr), h.ba.grown hg (whl_ne_row h.ba hr), IntsAt.grownR h.ints hg (fun r e => (hr r e).1) hB⟩

set_option maxRecDepth 100000 in
set_option maxHeartbeats 4000000 in
theorem toldL (x : InsD) (p stop : Int) (w : World) (ht : TabOk w) :
    Calls Tryd.prog 18 #[x.val, .int .i64 p, .int .i64 stop] w fun e w' => e = .returned (.bool true) ∧ Below w.heap.size w w' := by
  refine (callsIn_wide (n := 9)).1 ?_
  refine callsIn_of_wp_marks Tryd.func18 rfl trivial ?_ rfl
  simp only [Tryd.ntmps18, List.size_toArray, List.length_cons, List.length_nil, Nat.reduceAdd, Nat.reduceSub, Array.replicate_succ, Array.replicate_zero, List.push_toArray, List.append_toArray, List.nil_append, List.cons_append]
  gi_wp2_with (first
    | (refine ⟨trivial, ?_⟩; gi_at_call 29; refine (callsIn_wide.2 (readsR x.op x.a x.b x.c x.n p _)).mono ?_; rintro e w1 ⟨A, cp, rfl, hI, hb1⟩; obtain ⟨hcc1, hff1⟩ := bcell hb1; have hs1 := hb1.size; (try simp at hs1); have l1 : w.heap.size < w1.heap.size := (by omega))
    | (refine ⟨trivial, ?_⟩; gi_at_call 26; refine (callsIn_wide.2 (readsP x p _)).mono ?_; rintro e w2 ⟨rfl, rfl⟩))
  have hs3 : w.heap.size + 1 + 1 < w1.heap.size := (by omega)
  have hw1 : Below w.heap.size w w1 := below_step (below_alloc (below_alloc (below_alloc (Below.refl _ _) _) _) _) hb1
  have g0 : Whl (((w.alloc (.cells #[.int .i64 x.op, .int .i64 x.a, .int .i64 x.b, .int .i64 x.c, .int .i64 x.n] 27)).alloc (.cells #[.int .i64 stop] 3)).alloc (.cells #[.bool false] 4)) w.heap.size 27 #[.int .i64 x.op, .int .i64 x.a, .int .i64 x.b, .int .i64 x.c, .int .i64 x.n] := ((Whl.new _ _ _).alloc _).alloc _
  have g1 : Whl (((w.alloc (.cells #[.int .i64 x.op, .int .i64 x.a, .int .i64 x.b, .int .i64 x.c, .int .i64 x.n] 27)).alloc (.cells #[.int .i64 stop] 3)).alloc (.cells #[.bool false] 4)) (w.heap.size + 1) 3 #[.int .i64 stop] := by
    have := Whl.new (w.alloc (.cells #[.int .i64 x.op, .int .i64 x.a, .int .i64 x.b, .int .i64 x.c, .int .i64 x.n] 27)) 3 #[.int .i64 stop]
    rw [World.size_alloc] at this; exact this.alloc _
  have g2 : Whl (((w.alloc (.cells #[.int .i64 x.op, .int .i64 x.a, .int .i64 x.b, .int .i64 x.c, .int .i64 x.n] 27)).alloc (.cells #[.int .i64 stop] 3)).alloc (.cells #[.bool false] 4)) (w.heap.size + 1 + 1) 4 #[.bool false] := by
    have := Whl.new ((w.alloc (.cells #[.int .i64 x.op, .int .i64 x.a, .int .i64 x.b, .int .i64 x.c, .int .i64 x.n] 27)).alloc (.cells #[.int .i64 stop] 3)) 4 #[.bool false]
    rw [World.size_alloc, World.size_alloc] at this; exact this
  have e1 := g1.below' hb1
  have e2 := g2.below' hb1
  have k0 : Whl ((((w1.alloc (.cells #[.slice A (readsD x p).length cp] 56)).alloc (.cells #[.int .i64 0] 3)).alloc (.cells #[.int .i64 x.op, .int .i64 x.a, .int .i64 x.b, .int .i64 x.c, .int .i64 x.n] 27)).alloc (.cells #[.int .i64 p] 3)) w1.heap.size 56 #[.slice A (readsD x p).length cp] := (((Whl.new _ _ _).alloc _).alloc _).alloc _
  have k1 : Whl ((((w1.alloc (.cells #[.slice A (readsD x p).length cp] 56)).alloc (.cells #[.int .i64 0] 3)).alloc (.cells #[.int .i64 x.op, .int .i64 x.a, .int .i64 x.b, .int .i64 x.c, .int .i64 x.n] 27)).alloc (.cells #[.int .i64 p] 3)) (w1.heap.size + 1) 3 #[.int .i64 0] := by
    have := Whl.new (w1.alloc (.cells #[.slice A (readsD x p).length cp] 56)) 3 #[.int .i64 0]
    rw [World.size_alloc] at this; exact (this.alloc _).alloc _
  have k2 : Whl ((((w1.alloc (.cells #[.slice A (readsD x p).length cp] 56)).alloc (.cells #[.int .i64 0] 3)).alloc (.cells #[.int .i64 x.op, .int .i64 x.a, .int .i64 x.b, .int .i64 x.c, .int .i64 x.n] 27)).alloc (.cells #[.int .i64 p] 3)) (w1.heap.size + 1 + 1) 27 #[.int .i64 x.op, .int .i64 x.a, .int .i64 x.b, .int .i64 x.c, .int .i64 x.n] := by
    have := Whl.new ((w1.alloc (.cells #[.slice A (readsD x p).length cp] 56)).alloc (.cells #[.int .i64 0] 3)) 27 #[.int .i64 x.op, .int .i64 x.a, .int .i64 x.b, .int .i64 x.c, .int .i64 x.n]
    rw [World.size_alloc, World.size_alloc] at this; exact this.alloc _
  have k3 : Whl ((((w1.alloc (.cells #[.slice A (readsD x p).length cp] 56)).alloc (.cells #[.int .i64 0] 3)).alloc (.cells #[.int .i64 x.op, .int .i64 x.a, .int .i64 x.b, .int .i64 x.c, .int .i64 x.n] 27)).alloc (.cells #[.int .i64 p] 3)) (w1.heap.size + 1 + 1 + 1) 3 #[.int .i64 p] := by
    have := Whl.new (((w1.alloc (.cells #[.slice A (readsD x p).length cp] 56)).alloc (.cells #[.int .i64 0] 3)).alloc (.cells #[.int .i64 x.op, .int .i64 x.a, .int .i64 x.b, .int .i64 x.c, .int .i64 x.n] 27)) 3 #[.int .i64 p]
    rw [World.size_alloc, World.size_alloc, World.size_alloc] at this; exact this
  have hb2 : Below w1.heap.size w1 ((((w1.alloc (.cells #[.slice A (readsD x p).length cp] 56)).alloc (.cells #[.int .i64 0] 3)).alloc (.cells #[.int .i64 x.op, .int .i64 x.a, .int .i64 x.b, .int .i64 x.c, .int .i64 x.n] 27)).alloc (.cells #[.int .i64 p] 3)) := below_alloc (below_alloc (below_alloc (below_alloc (Below.refl _ _) _) _) _) _
  have hT0 : TMem w w1 stop A cp (readsD x p) 0 false ((((w1.alloc (.cells #[.slice A (readsD x p).length cp] 56)).alloc (.cells #[.int .i64 0] 3)).alloc (.cells #[.int .i64 x.op, .int .i64 x.a, .int .i64 x.b, .int .i64 x.c, .int .i64 x.n] 27)).alloc (.cells #[.int .i64 p] 3)) := ⟨below_step hw1 hb2, e1.below' hb2, e2.below' hb2, k0, k1, hI.below hb2 (Nat.le_refl _)⟩
  have ht2 : TabOk ((((w1.alloc (.cells #[.slice A (readsD x p).length cp] 56)).alloc (.cells #[.int .i64 0] 3)).alloc (.cells #[.int .i64 x.op, .int .i64 x.a, .int .i64 x.b, .int .i64 x.c, .int .i64 x.n] 27)).alloc (.cells #[.int .i64 p] 3)) := ht.below (below_step hw1 hb2) ht.size
  have hsz2 : ((((w1.alloc (.cells #[.slice A (readsD x p).length cp] 56)).alloc (.cells #[.int .i64 0] 3)).alloc (.cells #[.int .i64 x.op, .int .i64 x.a, .int .i64 x.b, .int .i64 x.c, .int .i64 x.n] 27)).alloc (.cells #[.int .i64 p] 3)).heap.size = w1.heap.size + 1 + 1 + 1 + 1 := by simp
  clear hcc1 hff1 g0 g1 g2 e1 e2 k0 k1 hI hb1 hb2
  obtain ⟨W2, hW2⟩ : ∃ W2, ((((w1.alloc (.cells #[.slice A (readsD x p).length cp] 56)).alloc (.cells #[.int .i64 0] 3)).alloc (.cells #[.int .i64 x.op, .int .i64 x.a, .int .i64 x.b, .int .i64 x.c, .int .i64 x.n] 27)).alloc (.cells #[.int .i64 p] 3)) = W2 := ⟨_, rfl⟩
  change Code.wpIn _ _ _ _ _ _ ((((w1.alloc (.cells #[.slice A (readsD x p).length cp] 56)).alloc (.cells #[.int .i64 0] 3)).alloc (.cells #[.int .i64 x.op, .int .i64 x.a, .int .i64 x.b, .int .i64 x.c, .int .i64 x.n] 27)).alloc (.cells #[.int .i64 p] 3))
  rw [hW2] at k2 k3 hT0 ht2 hsz2 ⊢
  clear hW2
  refine wpIn_rangeFunc_ownF (F := Fence.wide) rfl (by omega) (gf := 43) (lb := #[.pointer (some ⟨w1.heap.size + 1 + 1, 0, none⟩), .pointer (some ⟨w1.heap.size + 1 + 1 + 1, 0, none⟩)]) rfl trivial (enters_of Tryd.func43 (by kernel_rfl) rfl)
    (reads_stops 8 (by omega) (w1.heap.size + 1 + 1) (w1.heap.size + 1 + 1 + 1) w.heap.size (w1.heap.size + 1 + 1) x p W2 k2 k3 (.inr (Nat.le_refl _)) (by omega) (by omega) ht2) keepI_t (keepI_b (by omega)) (Below.refl _ _) (fun _ => rfl)
    (fun pre W => pre <+: readsD x p ∧ TMem w w1 stop A cp (readsD x p) pre.length false W)
    (fun c pre W => c = .ret ∧ Below w.heap.size w W ∧ (¬ pre <+: readsD x p ∨ Whl W (w.heap.size + 1 + 1) 4 #[.bool true]))
    (fun s A B row hs hg hr => ⟨hs.1, hs.2.grown hg (by omega) (by omega) hr⟩)
    (fun c s A B row hs hg hr => ⟨hs.1, hs.2.1.grown hg hs.2.1.size (fun k hk => by have := (hr k hk).1; omega), hs.2.2.imp id (fun h => h.grown hg (whl_ne_row h hr))⟩)
    ⟨List.nil_prefix, hT0⟩
    (fun y => { tmps := #[x.val, .int .i64 p, .int .i64 stop, .pointer (some ⟨w.heap.size, 0, none⟩), undef, .pointer (some ⟨w.heap.size + 1, 0, none⟩), .pointer (some ⟨w.heap.size + 1 + 1, 0, none⟩), .pointer (some ⟨w1.heap.size, 0, none⟩), .pointer (some ⟨w1.heap.size + 1, 0, none⟩), .int .i64 y, .agg #[.int .i64 x.op, .int .i64 x.a, .int .i64 x.b, .int .i64 x.c, .int .i64 x.n], .int .i64 p, .slice A (readsD x p).length cp, .agg #[.int .i64 x.op, .int .i64 x.a, .int .i64 x.b, .int .i64 x.c, .int .i64 x.n], .int .i64 p, .func (.func 43) #[] #[.pointer (some ⟨w1.heap.size + 1 + 1, 0, none⟩), .pointer (some ⟨w1.heap.size + 1 + 1 + 1, 0, none⟩)], .int .i64 y, undef, undef, undef, undef, undef, undef, undef, undef, undef, undef, undef, undef, undef, undef, undef, undef, undef, undef, undef, undef, undef], defers := [] }) ?assign ?body ?done ?stop
  case assign =>
    intro l y W K hK
    gi_wp2
    exact hK
  case body =>
    rintro l pre y W ⟨hpre, hT⟩ hlen
    have c1 : W.cell? ⟨w.heap.size + 1, 0, none⟩ = some (.int .i64 stop) := hT.bs.cell 0
    have c2 : W.cell? ⟨w.heap.size + 1 + 1, 0, none⟩ = some (.bool false) := hT.br.cell 0
    have c3 : W.cell? ⟨w1.heap.size, 0, none⟩ = some (.slice A (readsD x p).length cp) := hT.bw.cell 0
    have c4 : W.cell? ⟨w1.heap.size + 1, 0, none⟩ = some (.int .i64 pre.length) := hT.ba.cell 0
    have f2 := hT.br.frozen 0
    have f4 := hT.ba.frozen 0
    have hlr := readsD_len x p
    obtain ⟨b, off, rfl, hb, hc⟩ := hT.ints (by omega)
    have ce : W.cell? ⟨b, off + pre.length, none⟩ = some (.int .i64 (nthI (readsD x p) pre.length)) := hc _ hlen
    have u0 : decide (((readsD x p).length : Int) ≤ (pre.length : Int)) = false := by simp; omega
    clear hc
    cases hy : (y == nthI (readsD x p) pre.length)
    · have u1 : (y != nthI (readsD x p) pre.length) = true := by simp only [bne, hy, Bool.not_false]
      gi_wp2
      exact ⟨KeepsOthers.setCell _ _ _, rfl, hT.below.setCell (by simp; omega) _, .inl (fun h => by have := pre_next h; simp at hy; exact hy this.symm)⟩
    · have u1 : (y != nthI (readsD x p) pre.length) = false := by simp only [bne, hy, Bool.not_true]
      cases hst : ((pre.length : Int) + 1 == stop)
      · gi_wp2
        refine ⟨KeepsOthers.setCell _ _ _, keepI_put (by omega) _, pre_snoc hpre hlen (by simpa using hy), ?_⟩
        exact hT.put hs3 (by simp)
      · gi_wp2
        exact ⟨(KeepsOthers.setCell _ _ _).trans (KeepsOthers.setCell _ _ _), rfl, (hT.below.setCell (by simp; omega) _).setCell (by simp; omega) _, .inr (by simpa using ((hT.br.far (by simp; omega) _).put 0 (.bool true)))⟩
  case done =>
    rintro D ys W hD rfl ⟨_, hT⟩ hK
    have c2 : W.cell? ⟨w.heap.size + 1 + 1, 0, none⟩ = some (.bool false) := hT.br.cell 0
    have c3 : W.cell? ⟨w1.heap.size, 0, none⟩ = some (.slice A (readsD x p).length cp) := hT.bw.cell 0
    have c4 : W.cell? ⟨w1.heap.size + 1, 0, none⟩ = some (.int .i64 (readsD x p).length) := hT.ba.cell 0
    have f2 := hT.br.frozen 0
    gi_wp2
    have hK' := (KeepsOthers.setCell W ⟨w.heap.size + 1 + 1, 0, none⟩ (.bool true)).same D _ hK rfl
    refine ⟨by simp, .inl ⟨_, _, rfl, run_takeDeferred hK', ?_⟩⟩
    have hc5 := cell_kept (World.cell?_setCell_same' W ⟨w.heap.size + 1 + 1, 0, none⟩ (.bool true) (by rw [c2]; rfl)) (grownBy_putObj' _ D (.deferred none)) (fun r e => by cases e; exact ⟨_, hK', rfl⟩)
    refine ⟨.bool true, ?_, rfl, (hT.below.setCell (p := ⟨w.heap.size + 1 + 1, 0, none⟩) (by simp; omega) _).trans (belowK_b (w := w) (Nat.le_refl _) _ D _ _ (by omega) hK' rfl rfl)⟩
    simp [results, Tryd.f18, go_sem, hc5]
  case stop =>
    rintro D c pre W hD hpre ⟨rfl, hB, hX⟩ hK
    have hR := hX.resolve_left (fun h => h hpre)
    have c2 : W.cell? ⟨w.heap.size + 1 + 1, 0, none⟩ = some (.bool true) := hR.cell 0
    gi_wp2
    refine ⟨by simp, .inl ⟨_, _, rfl, run_takeDeferred hK, ?_⟩⟩
    have hc5 := cell_kept c2 (grownBy_putObj' _ D (.deferred none)) (fun r e => by cases e; exact ⟨_, hK, rfl⟩)
    refine ⟨.bool true, ?_, rfl, hB.trans (belowK_b (w := w) (Nat.le_refl _) W D _ _ (by omega) hK rfl rfl)⟩
    simp [results, Tryd.f18, go_sem, hc5]
end Go.Proofs.YtpmffclepnkedaaDoor
