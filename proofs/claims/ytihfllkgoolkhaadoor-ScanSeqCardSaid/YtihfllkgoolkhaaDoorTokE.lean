/-
  Layer 1 (scan): the function that Tokens hands back, as an iterator; what lies in memory while the law goes through it.
-/
import Derived.Test.YtihfllkgoolkhaaDoorTokD
namespace Go.Proofs.YtihfllkgoolkhaaDoor
open Go.RowKit Go.Shelf
set_option linter.unusedSimpArgs false
set_option linter.unusedVariables false
attribute [local go_sem] Oper.semAt_some
set_option maxHeartbeats 1000000 in
theorem tokensM (s : ByteArray) (w : World) : Calls Tryd.prog 20 #[.string s] w fun e w' => e = .returned (.func (.func 31) #[] #[.pointer (some ⟨w.heap.size, 0, none⟩)]) ∧ w.alloc (.cells #[.string s] 9) = w' := by
  go_enter Tryd.func20, Tryd.ntmps20
  go_wp2
  go_ret
  exact ⟨rfl, rfl⟩
theorem KeepT.more {r gv : Nat} {W0 W0' W1 W' : World} (h : KeepT r gv W0 W1 W') (hs : W0.heap.size ≤ W0'.heap.size) : KeepT r gv W0' W1 W' :=
  ⟨h.size, fun k hk hc => h.same k hk (hc.imp (fun h => Nat.le_trans hs h) id)⟩
set_option maxHeartbeats 1000000 in
theorem tokens1P (s : ByteArray) (hs : s.size ≤ maxLen) (g : Nat) (W : World) (hbox : W.cell? ⟨g, 0, none⟩ = some (.string s)) (hv : RangeVar W) (r : Nat) (hr : r = W.heap.size) :
    SeqT Tryd.prog 31 #[] #[.pointer (some ⟨g, 0, none⟩)] (fun t : TokD => #[tokV s t]) r 1 (fun _ => True) (scanD (bytesOf s)).toks W := by
  subst hr
  intro l J Jx hY h0
  have hgv := hv.lt
  have hT := tokensP s hs W.heap.size 0 0 (W.alloc (.cells #[.string s, .int .i64 0, .int .i64 0] 37)) (Whl.new _ _ _) (by omega) (hv.below (below_alloc (Below.refl _ _) _)) l
    (fun ts W0' => ∃ W0, J ts W0 ∧ W0.grownBy W0' (some W.heap.size)) (fun ts W0' => ∃ W0, Jx ts W0 ∧ W0.grownBy W0' (some W.heap.size))
    (fun pre x W0' W1 ⟨W0, hJ, hg⟩ hg1 hpre => by
      refine (hY pre x W0 W1 hJ (grown_trans hg hg1) hpre).mono fun e W' h => ?_
      rcases h with ⟨he, hj, hk⟩ | ⟨he, hj⟩
      · exact .inl ⟨he, ⟨W', hj, grown_refl _ _⟩, hk.more hg.size⟩
      · exact .inr ⟨he, W', hj, grown_refl _ _⟩)
    ⟨W, h0, grown_alloc _ _ _⟩
  have hT2 := (callsIn_wide (n := 7)).2 ((callsIn_wide (n := 8)).1 hT)
  clear hT
  refine callsIn_of_wp Tryd.func31 rfl trivial ?_ rfl
  simp only [Tryd.ntmps31, List.size_toArray, List.length_cons, List.length_nil, Nat.reduceAdd, Nat.reduceSub, Array.replicate_succ, Array.replicate_zero, List.push_toArray, List.append_toArray, List.nil_append, List.cons_append, List.append_nil] at hT2 ⊢
  have HT := Lib.hid hT2
  clear hT2 hY h0
  gi_wp2_with (refine ⟨trivial, ?_⟩; gi_at_call 21; refine (HT.out).mono ?_; rintro e W2 ⟨⟨v, rfl⟩, h⟩)
  go_end0
  refine ⟨⟨_, rfl⟩, ?_⟩
  rcases h with ⟨W0', ⟨W0, hJ, hg⟩, hg2, _⟩ | ⟨pre, W0', hpre, ⟨W0, hJ, hg⟩, hg2⟩
  · exact .inl ⟨W0, hJ, grown_trans hg hg2, trivial⟩
  · exact .inr ⟨pre, W0, hpre, hJ, grown_trans hg hg2⟩

/-- What lies in memory between two rounds: since world w3 nothing has turned but the block of the count. -/
structure QMem (w3 : World) (nb : Nat) (cnt : Nat) (W : World) : Prop where
  grown : w3.grownBy W (some nb)
  bn : Whl W nb 3 #[.int .i64 cnt]
theorem QMem.far {w3 W W' : World} {nb cnt r : Nat} (h : QMem w3 nb cnt W) (hnb : nb < w3.heap.size) (hr : w3.heap.size ≤ r) (hg : W.grownBy W' (some r)) : QMem w3 nb cnt W' :=
  ⟨⟨hg.os.trans h.grown.os, hg.tape.trans h.grown.tape, hg.output.trans h.grown.output, Nat.le_trans h.grown.size hg.size, fun k hk hne =>
    (hg.block k (Nat.lt_of_lt_of_le hk h.grown.size) (fun e => by have := Option.some.inj e; omega)).trans (h.grown.block k hk hne)⟩, h.bn.grown hg (fun e => by have := Option.some.inj e; omega)⟩
theorem QMem.putObj {w3 W : World} {nb cnt k : Nat} (h : QMem w3 nb cnt W) (hnb : nb < w3.heap.size) (hk : w3.heap.size ≤ k) (o : Obj) : QMem w3 nb cnt (W.putObj k o) :=
  h.far hnb hk (grownBy_putObj' W k o)
theorem QMem.alloc {w3 W : World} {nb cnt : Nat} (h : QMem w3 nb cnt W) (hnb : nb < w3.heap.size) (o : Obj) : QMem w3 nb cnt (W.alloc o) :=
  h.far hnb h.grown.size (grown_alloc W W.heap.size o)
theorem QMem.drew {w3 W : World} {nb cnt : Nat} (h : QMem w3 nb cnt W) (hnb : nb < w3.heap.size) : QMem w3 nb cnt W.drew :=
  h.far (r := w3.heap.size) hnb (Nat.le_refl _) (grown_of_below (Below.drew (Below.refl _ _)) _)
theorem QMem.drewN {w3 W : World} {nb cnt : Nat} (h : QMem w3 nb cnt W) (hnb : nb < w3.heap.size) (n : Nat) : QMem w3 nb cnt (W.drewN n) :=
  h.far (r := w3.heap.size) hnb (Nat.le_refl _) ⟨rfl, rfl, rfl, Nat.le_refl _, fun _ _ _ => rfl⟩
theorem keepB_set {W0 W1 : World} {ob : Obj} {nq nb b r gv : Nat} {v : Value} (h1 : nb ≠ r) (h2 : nb ≠ gv) (h3 : nb ≠ b) (h4 : nb ≠ b + 1) (h5 : nb < W0.heap.size) : KeepB b r gv W0 W1 (((W1.alloc ob).drewN nq).setCell ⟨nb, 0, none⟩ v) :=
  ⟨by
    have : (((W1.alloc ob).drewN nq).setCell ⟨nb, 0, none⟩ v).heap.size = W1.heap.size + 1 := by simp
    omega, fun k hk hc => by
    rw [Below.heap_setCell _ _ _ _ (show k ≠ nb by omega)]
    exact Below.heap_alloc _ _ _ hk⟩
theorem QMem.set {w3 W : World} {nb cnt cnt2 : Nat} (h : QMem w3 nb cnt W) (v : Value) (hv : v = .int .i64 cnt2) : QMem w3 nb cnt2 (W.setCell ⟨nb, 0, none⟩ v) := by
  subst hv
  exact ⟨grown_trans h.grown (grown_setCell _ _ _ _), by simpa using h.bn.put 0 (.int .i64 (cnt2 : Int))⟩
theorem QMem.cell {w3 W : World} {nb cnt b i : Nat} {v : Value} (h : QMem w3 nb cnt W) (hb : b < w3.heap.size) (hne : b ≠ nb) (hc : w3.cell? ⟨b, i, none⟩ = some v) : W.cell? ⟨b, i, none⟩ = some v := by
  rw [World.cell?_of_block (w := w3) (w' := W) (a := ⟨b, i, none⟩) (h.grown.block b hb (fun e => hne (Option.some.inj e)))]; exact hc
theorem QMem.whl {w3 W : World} {nb cnt b : Nat} {t : TypeId} {cs : Array Value} (h : QMem w3 nb cnt W) (hne : b ≠ nb) (hc : Whl w3 b t cs) : Whl W b t cs :=
  hc.grown h.grown (fun e => hne (Option.some.inj e))
theorem pre_snocT {pre ts : List TokD} {x : TokD} (h : pre ++ [x] <+: ts) : ∃ hl : pre.length < ts.length, ts[pre.length] = x := by
  obtain ⟨t, rfl⟩ := h
  exact ⟨by simp, by simp⟩
end Go.Proofs.YtihfllkgoolkhaaDoor
