/-
  A range over a function whose iterator writes a block of its own between the rounds: what such an iterator and its rounds promise one another; the statement's law. No idea of the program stands in it.
-/
import Derived.Test.YtihfllkgoolkhaaDoorKeep
import Derived.RangeFuncNested
namespace Go.Proofs.YtihfllkgoolkhaaDoor
open Go.RowKit
set_option linter.unusedSimpArgs false
set_option linter.unusedVariables false

section
variable {A B C : World} {r : Nat}
theorem grown_refl (A : World) (o : Option Nat) : A.grownBy A o := ⟨rfl, rfl, rfl, Nat.le_refl _, fun _ _ _ => rfl⟩
theorem grown_trans (h : A.grownBy B (some r)) (k : B.grownBy C (some r)) : A.grownBy C (some r) :=
  ⟨k.os.trans h.os, k.tape.trans h.tape, k.output.trans h.output, Nat.le_trans h.size k.size, fun i hi hr => (k.block i (Nat.lt_of_lt_of_le hi h.size) hr).trans (h.block i hi hr)⟩
theorem grown_of_below (h : Below A.heap.size A B) (o : Option Nat) : A.grownBy B o := ⟨h.os, h.tape, h.output, h.size, fun i hi _ => h.block i hi⟩
theorem below_of_grown {n : Nat} (h : A.grownBy B (some r)) (hr : n ≤ r) (hn : n ≤ A.heap.size) : Below n A B :=
  ⟨h.os, h.tape, h.output, h.size, fun i hi => h.block i (Nat.lt_of_lt_of_le hi hn) (fun e => by cases e; omega)⟩
theorem grown_putObj (h : A.grownBy B (some r)) {k : Nat} (hk : k < A.heap.size) (o : Obj) : (A.putObj k o).grownBy (B.putObj k o) (some r) :=
  ⟨h.os, h.tape, h.output, by simpa using h.size, fun i hi hr => by
    rw [World.putObj_size] at hi
    by_cases e : i = k
    · subst e; rw [World.putObj_heap_same hi, World.putObj_heap_same (Nat.lt_of_lt_of_le hi h.size)]
    · rw [World.putObj_heap_other e, World.putObj_heap_other e]; exact h.block i hi hr⟩
theorem below_putObj {n : Nat} (h : Below n A B) {k : Nat} (hk : n ≤ k) (o : Obj) : Below n A (B.putObj k o) :=
  ⟨h.os, h.tape, h.output, by simpa using h.size, fun i hi => (World.putObj_heap_other (by omega)).trans (h.block i hi)⟩
end

/-- What a round leaves as it lay: what has been laid since the round before it, the iterator's own block, and one block more. -/
structure KeepT (r gv : Nat) (W0 W1 W' : World) : Prop where
  size : W1.heap.size ≤ W'.heap.size
  same : ∀ k, k < W1.heap.size → (W0.heap.size ≤ k ∨ k = r ∨ k = gv) → W'.heap[k]? = W1.heap[k]?

/-- A round asked for: J held when the one before it had ended (in world W0); since then the iterator has turned its own block alone. -/
def YieldT {α : Type} (P : Program) (l : Nat) (encs : α → Array Value) (r gv : Nat) (J Jx : List α → World → Prop) (xs : List α) : Prop :=
  ∀ pre x W0 W1, J pre W0 → W0.grownBy W1 (some r) → pre ++ [x] <+: xs → YieldAt Fence.wide 8 P l (encs x) W1 fun e W' =>
    (e = .returned (.bool true) ∧ J (pre ++ [x]) W' ∧ KeepT r gv W0 W1 W') ∨ (e = .returned (.bool false) ∧ Jx (pre ++ [x]) W')

/-- An iterator that goes through xs and writes block r between the rounds. -/
def SeqT {α : Type} (P : Program) (g : Nat) (ra lb : Array Value) (encs : α → Array Value) (r gv : Nat) (E : World → Prop) (xs : List α) (W : World) : Prop :=
  ∀ (l : Nat) (J Jx : List α → World → Prop), YieldT P l encs r gv J Jx xs → J [] W →
    CallsIn Fence.wide 8 P g (ra ++ #[.func (.yield l) #[] #[]] ++ lb) W fun e W' => (∃ v, e = .returned v) ∧
      ((∃ W0, J xs W0 ∧ W0.grownBy W' (some r) ∧ E W') ∨ (∃ pre W0, pre <+: xs ∧ Jx pre W0 ∧ W0.grownBy W' (some r)))

/-- What the body keeps: its loop's two blocks beside. -/
structure KeepB (b r gv : Nat) (W0 W1 W' : World) : Prop where
  size : W1.heap.size ≤ W'.heap.size
  same : ∀ k, k < W1.heap.size → (W0.heap.size ≤ k ∨ k = r ∨ k = gv ∨ k = b ∨ k = b + 1) → W'.heap[k]? = W1.heap[k]?

def postT {α : Type} (b r gv : Nat) (I : List α → World → Prop) (Ix : Code → List α → World → Prop) (xs : List α) (W0 W1 : World) : Exit → Act → World → Prop
  | .normal, _, W' => KeepB b r gv W0 W1 W' ∧ I xs W'
  | .ret, _, W' => KeepB b r gv W1 W1 W' ∧ Ix .ret xs W'
  | .exit id, _, W' => KeepB b r gv W1 W1 W' ∧ Ix (.exit id) xs W'
  | .goto t, _, W' => KeepB b r gv W1 W1 W' ∧ Ix (.goto t) xs W'
  | .panic _, _, _ => False
  | .outgrown, _, _ => False

theorem round_any {n m : Nat} {P : Program} {l f : Nat} {tmps : Array Value} {assign body : Code} {w : World} {R : Ending → World → Prop} (h : RoundIn Fence.wide n P l f tmps assign body w R) : RoundIn Fence.wide m P l f tmps assign body w R :=
  ⟨h.1, fun c cs _ => h.2 c cs (room_wide _)⟩

theorem alloc_putObj {W : World} {k : Nat} (hk : k < W.heap.size) (o p : Obj) : (W.alloc p).putObj k o = (W.putObj k o).alloc p := by
  simp only [World.putObj, World.alloc]
  congr 1
  apply Array.ext_getElem?
  intro i
  simp only [Array.getElem?_setIfInBounds, Array.getElem?_push, Array.size_setIfInBounds, Array.size_push]
  grind
set_option maxHeartbeats 1000000 in
/-- The statement 'for x := range seq { body }' over such an iterator. -/
theorem wpIn_rangeFunc_T {α : Type} {P : Program} {g : Operand} {ps : Array Tmp} {assign body : Code} {Q : Exit → Act → World → Prop} {a : Act} {w : World}
    {gf : Nat} {ra lb : Array Value} (hg : a.eval g = .func (.func gf) ra lb) (eg : ∀ args w, (callFunc gf args).run P w = .ok (.enter gf args) w)
    {encs : α → Array Value} {xs : List α} {r gv : Nat} {E : World → Prop} (hr1 : r ≠ w.heap.size) (hr2 : r ≠ w.heap.size + 1) (hgv : gv < w.heap.size)
    (hseq : ∀ o o', SeqT P gf ra lb encs r gv E xs ((w.alloc o).alloc o')) (hE : ∀ A k o, E A → k ≠ r → E (A.putObj k o)) (hps : ∀ x, (encs x).size = ps.size)
    (I : List α → World → Prop) (Ix : Code → List α → World → Prop) (h0 : ∀ o o', I [] ((w.alloc o).alloc o'))
    (hI : ∀ s A o, I s A → I s (A.putObj (w.heap.size + 1) o)) (hIx : ∀ c s A o, Ix c s A → Ix c s (A.putObj (w.heap.size + 1) o)) (a₁ : α → Nat → Act) (ob : α → Obj)
    (hassign : ∀ (l : Nat) (x : α) (W : World) (K : Act → World → Prop), K (a₁ x W.heap.size) (W.alloc (ob x)) →
      assign.wpIn (Fence.wide.inRound l) 8 P (Exit.then K (fun _ _ _ => False)) { tmps := (ps.zip (encs x)).foldl (fun t (p, v) => t.setIfInBounds p v) a.tmps, defers := [] } W)
    (hbody : ∀ (l : Nat) (pre : List α) (x : α) (W0 W1 : World), I pre W0 → W0.grownBy W1 (some r) → w.heap.size + 1 < W0.heap.size → pre ++ [x] <+: xs →
      body.wpIn (Fence.wide.inRound l) 8 P (postT w.heap.size r gv I Ix (pre ++ [x]) W0 W1) (a₁ x W1.heap.size) (W1.alloc (ob x)))
    (hdone : ∀ (W0 W : World), I xs W0 → W0.grownBy W (some r) → w.heap.size + 1 < W0.heap.size → E W → W.heap[w.heap.size]? = some (.deferred (some [])) → Q .normal { a with defers := { target := .collected w.heap.size, args := #[] } :: a.defers } W)
    (hstop : ∀ (c : Code) (pre : List α) (W0 W : World), pre <+: xs → Ix c pre W0 → W0.grownBy W (some r) → w.heap.size + 1 < W0.heap.size → W.heap[w.heap.size]? = some (.deferred (some [])) →
      c.wpIn Fence.wide 9 P Q { a with defers := { target := .collected w.heap.size, args := #[] } :: a.defers } W) :
    (Code.rangeFunc g ps assign body).wpIn Fence.wide 9 P Q a w := by
  refine wpIn_rangeFunc ?_
  intro fn hfn
  obtain ⟨rec, hrec⟩ : ∃ rec : LoopState → Option Code → Loop, rec = fun st pe => { state := st, pending := pe, fn, tmps := a.tmps, params := ps, assign, body, defers := w.heap.size } := ⟨_, rfl⟩
  have hL1 : ((w.alloc (.deferred (some []))).alloc (.loop (rec .ready none))).heap[w.heap.size + 1]? = some (.loop (rec .ready none)) := by
    have := World.alloc_heap_new (w.alloc (.deferred (some []))) (.loop (rec .ready none)); rwa [World.size_alloc] at this
  have hK1 : ((w.alloc (.deferred (some []))).alloc (.loop (rec .ready none))).heap[w.heap.size]? = some (.deferred (some [])) :=
    (Below.heap_alloc _ _ _ (by simp)).trans (World.alloc_heap_new w _)
  have s1 := hseq (.deferred (some [])) (.loop (rec .ready none))
  have h1 := h0 (.deferred (some [])) (.loop (rec .ready none))
  refine ⟨w.heap.size + 1, [{ target := .collected w.heap.size, args := #[] }], (w.alloc (.deferred (some []))).alloc (.loop (rec .ready none)), { target := .fn (.func gf) lb, args := ra ++ #[.func (.yield (w.heap.size + 1)) #[] #[]] }, (w.alloc (.deferred (some []))).alloc (.loop (rec .ready none)), gf,
    ra ++ #[.func (.yield (w.heap.size + 1)) #[] #[]] ++ lb, (w.alloc (.deferred (some []))).alloc (.loop (rec .ready none)), ?_, ?_, ?_, ?_, (fun _ => by decide), ?_⟩
  · rw [hrec]; exact run_enterLoop_outer _ _ _ _ _
  · simp only [resolve, hg]
    simp [go_sem]
  · intro f' hf'; trivial
  · simp [invoke, go_sem, eg]
  · refine (s1 (w.heap.size + 1)
      (fun pre W => I pre W ∧ W.heap[w.heap.size + 1]? = some (.loop (rec .ready none)) ∧ W.heap[w.heap.size]? = some (.deferred (some [])))
      (fun pre W => ∃ c, Ix c pre W ∧ W.heap[w.heap.size + 1]? = some (.loop (rec .done (some c))) ∧ W.heap[w.heap.size]? = some (.deferred (some [])))
      ?_ ⟨h1, hL1, hK1⟩).mono ?_
    · rintro pre x W0 W ⟨hi, hl0, hk0⟩ hg0 hpre
      have hlt0 : w.heap.size + 1 < W0.heap.size := (Array.getElem?_eq_some_iff.1 hl0).1
      have hl : W.heap[w.heap.size + 1]? = some (.loop (rec .ready none)) := (hg0.block _ hlt0 (fun e => hr2 (by cases e; rfl))).trans hl0
      have hk : W.heap[w.heap.size]? = some (.deferred (some [])) := (hg0.block _ (by omega) (fun e => hr1 (by cases e; rfl))).trans hk0
      have hlt : w.heap.size + 1 < W.heap.size := (Array.getElem?_eq_some_iff.1 hl).1
      have hy := run_yield (P := P) (args := encs x) hl (by rw [hrec]; exact hps x)
      rw [hrec] at hy
      refine ⟨fn, _, assign, body, hy, roundIn_of_wpIn trivial (hassign _ x W _ ⟨_, run_beginRound ((Below.heap_alloc _ _ _ hlt).trans hl) (by rw [hrec]), ?_⟩)⟩
      have hcomm : ∀ o, (W.alloc (ob x)).putObj (w.heap.size + 1) o = (W.putObj (w.heap.size + 1) o).alloc (ob x) := fun o => alloc_putObj hlt _ _
      rw [hcomm]
      have hl2 : (W.putObj (w.heap.size + 1) (.loop { rec .ready none with state := .busy })).heap[w.heap.size + 1]? = some (.loop { rec .ready none with state := .busy }) := World.putObj_heap_same hlt
      have hk2 : (W.putObj (w.heap.size + 1) (.loop { rec .ready none with state := .busy })).heap[w.heap.size]? = some (.deferred (some [])) := (World.putObj_heap_other (by omega)).trans hk
      have hb := hbody (w.heap.size + 1) pre x (W0.putObj (w.heap.size + 1) (.loop { rec .ready none with state := .busy })) _ (hI _ _ _ hi) (grown_putObj hg0 hlt0 (.loop { rec .ready none with state := .busy })) (by simpa using hlt0) hpre
      rw [World.putObj_size] at hb
      refine wpIn_mono hb ?_
      have fin : ∀ (jump : Option Code) (W3 : World), W3.heap[w.heap.size + 1]? = some (.loop { rec .ready none with state := .busy }) → W3.heap[w.heap.size]? = some (.deferred (some [])) →
          (Instr.endRound (w.heap.size + 1) jump).run P W3 = .ok (.bool jump.isNone) (W3.putObj (w.heap.size + 1) (.loop (rec (if jump.isNone then .ready else .done) jump))) ∧
          (W3.putObj (w.heap.size + 1) (.loop (rec (if jump.isNone then .ready else .done) jump))).heap[w.heap.size + 1]? = some (.loop (rec (if jump.isNone then .ready else .done) jump)) ∧
          (W3.putObj (w.heap.size + 1) (.loop (rec (if jump.isNone then .ready else .done) jump))).heap[w.heap.size]? = some (.deferred (some [])) := fun jump W3 hl3 hk3 => by
        have := run_endRound (P := P) jump hl3
        rw [hrec] at this ⊢
        exact ⟨this, World.putObj_heap_same (Array.getElem?_eq_some_iff.1 hl3).1, (World.putObj_heap_other (by omega)).trans hk3⟩
      have two : ∀ {W0' W3 : World}, KeepB w.heap.size r gv W0' (W.putObj (w.heap.size + 1) (.loop { rec .ready none with state := .busy })) W3 →
          W3.heap[w.heap.size + 1]? = some (.loop { rec .ready none with state := .busy }) ∧ W3.heap[w.heap.size]? = some (.deferred (some [])) := fun hk3 =>
        ⟨(hk3.same _ (by simpa using hlt) (.inr (.inr (.inr (.inr rfl))))).trans hl2, (hk3.same _ (by simp; omega) (.inr (.inr (.inr (.inl rfl))))).trans hk2⟩
      rintro e a3 W3 hp
      cases e with
      | normal =>
        obtain ⟨hk3, hi3⟩ := hp
        obtain ⟨hl3, hd3⟩ := two hk3
        obtain ⟨hr, hl4, hk4⟩ := fin none W3 hl3 hd3
        refine ⟨_, _, hr, .inl ⟨rfl, ⟨hI _ _ _ hi3, hl4, hk4⟩, ?_, ?_⟩⟩
        · have := hk3.size; simpa using this
        · intro k hk' hc
          have hne : k ≠ w.heap.size + 1 := by
            rcases hc with h | rfl | rfl
            · omega
            · exact hr2
            · omega
          rw [World.putObj_heap_other hne, hk3.same k (by simpa using hk') (by simpa using hc.elim .inl (fun h => .inr (h.elim .inl (fun h => .inr (.inl h)))))]
          exact World.putObj_heap_other hne
      | ret =>
        obtain ⟨hk3, hi3⟩ := hp
        obtain ⟨hl3, hd3⟩ := two hk3
        obtain ⟨hr, hl4, hk4⟩ := fin (some .ret) W3 hl3 hd3
        exact ⟨_, _, hr, .inr ⟨rfl, .ret, hIx _ _ _ _ hi3, hl4, hk4⟩⟩
      | exit id =>
        obtain ⟨hk3, hi3⟩ := hp
        obtain ⟨hl3, hd3⟩ := two hk3
        obtain ⟨hr, hl4, hk4⟩ := fin (some (.exit id)) W3 hl3 hd3
        exact ⟨_, _, hr, .inr ⟨rfl, .exit id, hIx _ _ _ _ hi3, hl4, hk4⟩⟩
      | goto t =>
        obtain ⟨hk3, hi3⟩ := hp
        obtain ⟨hl3, hd3⟩ := two hk3
        obtain ⟨hr, hl4, hk4⟩ := fin (some (.goto t)) W3 hl3 hd3
        exact ⟨_, _, hr, .inr ⟨rfl, .goto t, hIx _ _ _ _ hi3, hl4, hk4⟩⟩
      | panic ch => exact hp.elim
      | outgrown => exact hp.elim
    · rintro e W2 ⟨⟨v, rfl⟩, (⟨W0, ⟨hi, hl0, hk0⟩, hg2, hE2⟩ | ⟨pre, W0, hpre, ⟨c, hi, hl0, hk0⟩, hg2⟩)⟩
      · have hlt0 : w.heap.size + 1 < W0.heap.size := (Array.getElem?_eq_some_iff.1 hl0).1
        have hl : W2.heap[w.heap.size + 1]? = some (.loop (rec .ready none)) := (hg2.block _ hlt0 (fun e => hr2 (by cases e; rfl))).trans hl0
        have hk : W2.heap[w.heap.size]? = some (.deferred (some [])) := (hg2.block _ (by omega) (fun e => hr1 (by cases e; rfl))).trans hk0
        refine ⟨none, _, by have := run_endLoop (P := P) hl (by rw [hrec]; simp); rw [hrec] at this; exact this, ?_⟩
        exact hdone (W0.putObj (w.heap.size + 1) _) _ (hI _ _ _ hi) (grown_putObj hg2 hlt0 _) (by simpa using hlt0) (hE _ _ _ hE2 (fun e => hr2 e.symm)) ((World.putObj_heap_other (by omega)).trans hk)
      · have hlt0 : w.heap.size + 1 < W0.heap.size := (Array.getElem?_eq_some_iff.1 hl0).1
        have hl : W2.heap[w.heap.size + 1]? = some (.loop (rec .done (some c))) := (hg2.block _ hlt0 (fun e => hr2 (by cases e; rfl))).trans hl0
        have hk : W2.heap[w.heap.size]? = some (.deferred (some [])) := (hg2.block _ (by omega) (fun e => hr1 (by cases e; rfl))).trans hk0
        refine ⟨some c, _, by have := run_endLoop (P := P) hl (by rw [hrec]; simp); rw [hrec] at this; exact this, ?_⟩
        exact hstop c pre (W0.putObj (w.heap.size + 1) _) _ hpre (hIx _ _ _ _ hi) (grown_putObj hg2 hlt0 _) (by simpa using hlt0) ((World.putObj_heap_other (by omega)).trans hk)
end Go.Proofs.YtihfllkgoolkhaaDoor
