/-
  Layer 16 (bounds): SeqM, Find.
-/
import Derived.Test.YtddobhneplfddaaDoorV1
import Derived.RangeFuncNested
namespace Go.Proofs.YtddobhneplfddaaDoor
open Go.RowKit
set_option linter.unusedSimpArgs false
set_option linter.unusedVariables false
/-- A round asked for: J held when the one before it had ended. -/
def YieldM {α : Type} (P : Program) (l : Nat) (encs : α → Array Value) (J : List α → World → Prop) (xs : List α) : Prop :=
  ∀ pre x W, J pre W → pre ++ [x] <+: xs → YieldAt Fence.wide 8 P l (encs x) W fun e W' => e = .returned (.bool true) ∧ J (pre ++ [x]) W'
/-- An iterator that goes through xs; I: what it reads between the rounds. -/
def SeqM {α : Type} (P : Program) (g : Nat) (ra lb : Array Value) (encs : α → Array Value) (I : List α → World → Prop) (xs : List α) (W : World) : Prop :=
  ∀ (l : Nat) (J : List α → World → Prop), (∀ pre W, J pre W → I pre W) → YieldM P l encs J xs → J [] W →
    CallsIn Fence.wide 8 P g (ra ++ #[.func (.yield l) #[] #[]] ++ lb) W fun e W' => (∃ v, e = .returned v) ∧ J xs W'
/-- What the body keeps: its loop's two blocks. -/
structure KeepM (b : Nat) (W W' : World) : Prop where
  size : W.heap.size ≤ W'.heap.size
  same : ∀ k, k = b ∨ k = b + 1 → W'.heap[k]? = W.heap[k]?
def postM {α : Type} (b : Nat) (I : List α → World → Prop) (xs : List α) (W : World) : Exit → Act → World → Prop
  | .normal, _, W' => KeepM b W W' ∧ I xs W'
  | _, _, _ => False
theorem round_anyM {n m : Nat} {P : Program} {l f : Nat} {tmps : Array Value} {assign body : Code} {w : World} {R : Ending → World → Prop} (h : RoundIn Fence.wide n P l f tmps assign body w R) : RoundIn Fence.wide m P l f tmps assign body w R :=
  ⟨h.1, fun c cs _ => h.2 c cs (room_wide _)⟩
set_option maxHeartbeats 1000000 in
/-- The statement 'for x := range seq { body }' over such an iterator. -/
theorem wpIn_rangeFunc_M {α : Type} {P : Program} {g : Operand} {ps : Array Tmp} {assign body : Code} {Q : Exit → Act → World → Prop} {a : Act} {w : World}
    {gf : Nat} {ra lb : Array Value} (hg : a.eval g = .func (.func gf) ra lb) (eg : ∀ args w, (callFunc gf args).run P w = .ok (.enter gf args) w)
    {encs : α → Array Value} {xs : List α} {Ir : List α → World → Prop}
    (hseq : ∀ o o', SeqM P gf ra lb encs Ir xs ((w.alloc o).alloc o')) (hps : ∀ x, (encs x).size = ps.size)
    (I : List α → World → Prop) (hIr : ∀ s A, I s A → Ir s A) (h0 : ∀ o o', I [] ((w.alloc o).alloc o'))
    (hI : ∀ s A o, I s A → I s (A.putObj (w.heap.size + 1) o)) (a₁ : α → Act)
    (hassign : ∀ (l : Nat) (x : α) (W : World) (K : Act → World → Prop), K (a₁ x) W →
      assign.wpIn (Fence.wide.inRound l) 8 P (Exit.then K (fun _ _ _ => False)) { tmps := (ps.zip (encs x)).foldl (fun t (p, v) => t.setIfInBounds p v) a.tmps, defers := [] } W)
    (hbody : ∀ (l : Nat) (pre : List α) (x : α) (W : World), I pre W → w.heap.size + 1 < W.heap.size → pre ++ [x] <+: xs →
      body.wpIn (Fence.wide.inRound l) 8 P (postM w.heap.size I (pre ++ [x]) W) (a₁ x) W)
    (hdone : ∀ (W : World), I xs W → w.heap.size + 1 < W.heap.size → W.heap[w.heap.size]? = some (.deferred (some [])) → Q .normal { a with defers := { target := .collected w.heap.size, args := #[] } :: a.defers } W) :
    (Code.rangeFunc g ps assign body).wpIn Fence.wide 9 P Q a w := by
  refine wpIn_rangeFunc ?_
  intro fn hfn
  obtain ⟨rec, hrec⟩ : ∃ rec : LoopState → Option Code → Loop, rec = fun st pe => { state := st, pending := pe, fn, tmps := a.tmps, params := ps, assign, body, defers := w.heap.size } := ⟨_, rfl⟩
  have hL1 : ((w.alloc (.deferred (some []))).alloc (.loop (rec .ready none))).heap[w.heap.size + 1]? = some (.loop (rec .ready none)) := by
    have := World.alloc_heap_new (w.alloc (.deferred (some []))) (.loop (rec .ready none)); rwa [World.size_alloc] at this
  have hK1 : ((w.alloc (.deferred (some []))).alloc (.loop (rec .ready none))).heap[w.heap.size]? = some (.deferred (some [])) :=
    (Below.heap_alloc _ _ _ (by simp)).trans (World.alloc_heap_new w _)
  have s1 := hseq (.deferred (some [])) (.loop (rec .ready none))
  have h1 := h0 (.deferred (some [])) (.loop (rec .ready none))
  refine ⟨w.heap.size + 1, [{ target := .collected w.heap.size, args := #[] }], (w.alloc (.deferred (some []))).alloc (.loop (rec .ready none)), { target := .fn (.func gf) lb, args := ra ++ #[.func (.yield (w.heap.size + 1)) #[] #[]] }, (w.alloc (.deferred (some []))).alloc (.loop (rec .ready none)), gf,
    ra ++ #[.func (.yield (w.heap.size + 1)) #[] #[]] ++ lb, (w.alloc (.deferred (some []))).alloc (.loop (rec .ready none)), ?_, ?_, ?_, ?_, (fun _ => by decide), ?_⟩
  · rw [hrec]; exact run_enterLoop_outer _ _ _ _ _
  · simp only [resolve, hg]
    simp [go_sem]
  · intro f' hf'; trivial
  · simp [invoke, go_sem, eg]
  · refine (s1 (w.heap.size + 1)
      (fun pre W => I pre W ∧ W.heap[w.heap.size + 1]? = some (.loop (rec .ready none)) ∧ W.heap[w.heap.size]? = some (.deferred (some [])))
      (fun pre W h => hIr _ _ h.1) ?_ ⟨h1, hL1, hK1⟩).mono ?_
    · rintro pre x W ⟨hi, hl, hk⟩ hpre
      have hlt : w.heap.size + 1 < W.heap.size := (Array.getElem?_eq_some_iff.1 hl).1
      have hy := run_yield (P := P) (args := encs x) hl (by rw [hrec]; exact hps x)
      rw [hrec] at hy
      refine ⟨fn, _, assign, body, hy, roundIn_of_wpIn trivial (hassign _ x W _ ⟨_, run_beginRound hl (by rw [hrec]), ?_⟩)⟩
      have hl2 : (W.putObj (w.heap.size + 1) (.loop { rec .ready none with state := .busy })).heap[w.heap.size + 1]? = some (.loop { rec .ready none with state := .busy }) := World.putObj_heap_same hlt
      have hk2 : (W.putObj (w.heap.size + 1) (.loop { rec .ready none with state := .busy })).heap[w.heap.size]? = some (.deferred (some [])) := (World.putObj_heap_other (by omega)).trans hk
      have hb := hbody (w.heap.size + 1) pre x (W.putObj (w.heap.size + 1) (.loop { rec .ready none with state := .busy })) (hI _ _ _ hi) (by simpa using hlt) hpre
      refine wpIn_mono hb ?_
      have fin : ∀ (jump : Option Code) (W3 : World), W3.heap[w.heap.size + 1]? = some (.loop { rec .ready none with state := .busy }) → W3.heap[w.heap.size]? = some (.deferred (some [])) →
          (Instr.endRound (w.heap.size + 1) jump).run P W3 = .ok (.bool jump.isNone) (W3.putObj (w.heap.size + 1) (.loop (rec (if jump.isNone then .ready else .done) jump))) ∧
          (W3.putObj (w.heap.size + 1) (.loop (rec (if jump.isNone then .ready else .done) jump))).heap[w.heap.size + 1]? = some (.loop (rec (if jump.isNone then .ready else .done) jump)) ∧
          (W3.putObj (w.heap.size + 1) (.loop (rec (if jump.isNone then .ready else .done) jump))).heap[w.heap.size]? = some (.deferred (some [])) := fun jump W3 hl3 hk3 => by
        have := run_endRound (P := P) jump hl3
        rw [hrec] at this ⊢
        exact ⟨this, World.putObj_heap_same (Array.getElem?_eq_some_iff.1 hl3).1, (World.putObj_heap_other (by omega)).trans hk3⟩
      rintro e a3 W3 hp
      cases e with
      | normal =>
        obtain ⟨hk3, hi3⟩ := hp
        obtain ⟨hr, hl4, hk4⟩ := fin none W3 ((hk3.same _ (.inr rfl)).trans hl2) ((hk3.same _ (.inl rfl)).trans hk2)
        exact ⟨_, _, hr, rfl, hI _ _ _ hi3, hl4, hk4⟩
      | ret => exact hp.elim
      | exit id => exact hp.elim
      | goto t => exact hp.elim
      | panic ch => exact hp.elim
      | outgrown => exact hp.elim
    · rintro e W2 ⟨⟨v, rfl⟩, hi, hl, hk⟩
      have hlt : w.heap.size + 1 < W2.heap.size := (Array.getElem?_eq_some_iff.1 hl).1
      refine ⟨none, _, by have := run_endLoop (P := P) hl (by rw [hrec]; simp); rw [hrec] at this; exact this, ?_⟩
      exact hdone _ (hI _ _ _ hi) (by simpa using hlt) ((World.putObj_heap_other (by omega)).trans hk)
end Go.Proofs.YtddobhneplfddaaDoor

namespace Go.Proofs.YtddobhneplfddaaDoor
open Go.RowKit
set_option linter.unusedSimpArgs false
set_option linter.unusedVariables false
/-- The region of this number. -/
def findR (k : Nat) : Code → Option Code
  | .region id ops d => if id = k then some (.region id ops d) else none
  | .seq a b => match findR k a with
    | some c => some c
    | none => findR k b
  | .cond _ a b => match findR k a with
    | some c => some c
    | none => findR k b
  | .block _ c => findR k c
  | .loop c => findR k c
  | .scope c => findR k c
  | .rangeFunc _ _ a b => match findR k a with
    | some c => some c
    | none => findR k b
  | _ => none
/-- The body of the first range over a function. -/
def findB : Code → Option Code
  | .seq a b => match findB a with
    | some c => some c
    | none => findB b
  | .cond _ a b => match findB a with
    | some c => some c
    | none => findB b
  | .block _ c => findB c
  | .loop c => findB c
  | .scope c => findB c
  | .rangeFunc _ _ _ b => some b
  | _ => none
def bodyOf (f : Func) : Code := f.body.getD .skip
theorem use_found {F : Code → Option Code} {b : Code} {W : Code → Prop} {d : Code} (h : ∃ c, F b = some c ∧ W c) (hd : F b = some d) : W d := by
  obtain ⟨c, h1, h2⟩ := h
  rw [h1] at hd
  cases hd
  exact h2
end Go.Proofs.YtddobhneplfddaaDoor
