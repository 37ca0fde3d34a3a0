/-
  Layer 2 (tree): the printer: what it holds; the walks of copyCheck, WriteString and put.
-/
import Derived.Test.YtdddppmfeoebgaaGreatDoorStrRow
import Derived.Lib.AppendStr
import Derived.Lib.Builder
import Derived.Laws.Externs
import Derived.Deep.DeepMust
namespace Go.Proofs.YtdddppmfeoebgaaGreatDoor
open Go.RowKit
set_option linter.unusedSimpArgs false
set_option linter.unusedVariables false
abbrev u8V (b : UInt8) : Value := .int .u8 (b.toNat : Int)
def U8s (l : List UInt8) : List Value := l.map u8V
theorem U8s_app (l m : List UInt8) : U8s (l ++ m) = U8s l ++ U8s m := by simp [U8s]
theorem infoB : (Tryz.prog.info? 5).map (fun i => (i.zero, i.size, i.bytes)) = some (some (.int .u8 0), 1, 1) := by kernel_rfl
abbrev OwnB (w : World) (B : Nat) (v : Value) (l : List UInt8) : Prop := w.ownsRow B 5 1 v l.length (U8s l)
abbrev prnC (a : Option Addr) (v : Value) (d : Int) : Array Value := #[.pointer a, v, .int .i64 d]
/-- The printer in block g: its text so far, and how deep it is. -/
structure PrW (W : World) (B g : Nat) (l : List UInt8) (a : Option Addr) (v : Value) (d : Int) : Prop where
  whl : Whl W g 54 (prnC a v d)
  own : OwnB W B v l
  low : B ≤ g
  nil : l = [] → v = .slice none 0 0
theorem PrW.lt {W : World} {B g : Nat} {l : List UInt8} {a : Option Addr} {v : Value} {d : Int} (h : PrW W B g l a v d) : g < W.heap.size := h.whl.lt
theorem ownB_far {w : World} {B g : Nat} {v : Value} {l : List UInt8} {t : TypeId} {cs : Array Value} (h : OwnB w B v l) (hw : Whl w g t cs) (ht : t ≠ 5) : some g ≠ v.ownBlock := fun e => by
  rcases h.2 with ⟨rfl, _⟩ | ⟨g2, cap2, cur2, rfl, _, hh2, _⟩
  · cases e
  · simp only [Value.ownBlock, Option.some.injEq] at e
    subst e
    unfold Whl at hw
    rw [hw] at hh2
    cases hh2
    exact ht rfl
theorem ownB_base {w : World} {B : Nat} {v : Value} {l : List UInt8} (h : OwnB w B v l) : ∀ k, v.ownBlock = some k → B ≤ k := fun k e => by
  rcases h.2 with ⟨rfl, _⟩ | ⟨g2, cap2, cur2, rfl, hB, _⟩
  · cases e
  · simp only [Value.ownBlock, Option.some.injEq] at e
    omega
theorem ownB_keep {w w' : World} {B : Nat} {v : Value} {l : List UInt8} (h : OwnB w B v l) (hk : ∀ g, v.ownBlock = some g → w'.heap[g]? = w.heap[g]?) : OwnB w' B v l := by
  rcases h with ⟨hl, h0 | ⟨g, cap, cur, rfl, hb, hh, hnc, hm, hs, ht⟩⟩
  · exact ⟨hl, .inl h0⟩
  · exact ⟨hl, .inr ⟨g, cap, cur, rfl, hb, (hk g rfl).trans hh, hnc, hm, hs, ht⟩⟩
theorem ownB_lt {w : World} {B : Nat} {v : Value} {l : List UInt8} (h : OwnB w B v l) : ∀ g, v.ownBlock = some g → g < w.heap.size := fun k e => by
  rcases h.2 with ⟨rfl, _⟩ | ⟨g2, cap2, cur2, rfl, hB, hh, _⟩
  · cases e
  · simp only [Value.ownBlock, Option.some.injEq] at e
    subst e
    rcases Nat.lt_or_ge g2 w.heap.size with k | k
    · exact k
    · rw [Array.getElem?_eq_none k] at hh; cases hh
theorem ownB_below {w w' : World} {B : Nat} {v : Value} {l : List UInt8} (h : OwnB w B v l) (hb : Below w.heap.size w w') : OwnB w' B v l := ownB_keep h fun g hg => hb.block g (ownB_lt h g hg)
theorem ownB_slice {w : World} {B : Nat} {v : Value} {l : List UInt8} (h : OwnB w B v l) : ∃ A c, v = .slice A l.length c := by
  rcases h.2 with ⟨rfl, e⟩ | ⟨g2, cap2, cur2, rfl, _⟩
  · exact ⟨none, 0, by rw [e]⟩
  · exact ⟨_, _, rfl⟩
theorem ownB_slice' {w : World} {B : Nat} {v : Value} {l : List UInt8} (h : OwnB w B v l) : ∃ A n c, v = .slice A n c := by
  obtain ⟨A, c, e⟩ := ownB_slice h
  exact ⟨A, _, c, e⟩
theorem Whl.type_eq {w : World} {g : Nat} {t u : TypeId} {cs ds : Array Value} (h1 : Whl w g t cs) (h2 : Whl w g u ds) : t = u := by
  unfold Whl at *
  rw [h1] at h2
  cases h2; rfl
theorem PrW.go {W W2 : World} {B g : Nat} {l : List UInt8} {a : Option Addr} {v : Value} {d : Int} (h : PrW W B g l a v d) (hb : Below W.heap.size W W2) : PrW W2 B g l a v d := ⟨h.whl.below' hb, ownB_below h.own hb, h.low, h.nil⟩
theorem PrW.alloc {W : World} {B g : Nat} {l : List UInt8} {a : Option Addr} {v : Value} {d : Int} (h : PrW W B g l a v d) (o : Obj) : PrW (W.alloc o) B g l a v d := ⟨h.whl.alloc o, h.own.alloc o, h.low, h.nil⟩
theorem ownB_far' {w : World} {B g : Nat} {v u : Value} {l : List UInt8} {i : Nat} (h : OwnB w B v l) (hne : some g ≠ v.ownBlock) : OwnB (w.setCell ⟨g, i, none⟩ u) B v l := ownB_keep h fun k hk => Below.heap_setCell w ⟨g, i, none⟩ u k (fun e => hne (by rw [hk]; exact congrArg some e.symm))
/-- .. one body further in, or out. -/
theorem PrW.deep {W : World} {B g : Nat} {l : List UInt8} {a : Option Addr} {v : Value} {d : Int} (h : PrW W B g l a v d) (e : Int) : PrW (W.setCell ⟨g, 2, none⟩ (.int .i64 e)) B g l a v e := ⟨h.whl.put 2 _, ownB_far' h.own (ownB_far h.own h.whl (by decide)), h.low, h.nil⟩
set_option maxRecDepth 100000 in
set_option maxHeartbeats 1000000 in
theorem ckUsed (g : Nat) (W : World) (h0 : W.cell? ⟨g, 0, none⟩ = some (.pointer (some ⟨g, 0, none⟩))) :
    Calls Tryz.prog 75 #[.pointer (some ⟨g, 0, none⟩)] W fun e w' => e = .returned (.tuple #[]) ∧ W = w' := by
  obtain ⟨j, hj, _⟩ := Option.map_eq_some_iff.1 (show (Tryz.prog.info? 52).map (·.size) = some 2 by kernel_rfl)
  go_enter Tryz.func75, Tryz.ntmps75
  go_wp2
  rw [Lib.run_neq_ptr_same _ _ Tryz.underlying49 hj]
  go_wp2
  go_end0
  exact ⟨rfl, rfl⟩
set_option maxRecDepth 100000 in
set_option maxHeartbeats 1000000 in
theorem ckFresh (g : Nat) (v : Value) (d : Int) (W : World) (h : Whl W g 54 (prnC none v d)) :
    Calls Tryz.prog 75 #[.pointer (some ⟨g, 0, none⟩)] W fun e w' => e = .returned (.tuple #[]) ∧ w' = W.setCell ⟨g, 0, none⟩ (.pointer (some ⟨g, 0, none⟩)) := by
  obtain ⟨j, hj, hjs⟩ := Option.map_eq_some_iff.1 (show (Tryz.prog.info? 52).map (·.size) = some 2 by kernel_rfl)
  have h0 : W.cell? ⟨g, 0, none⟩ = some (.pointer none) := h.cell 0
  have hfz : W.frozen? ⟨g, 0, none⟩ = false := h.frozen 0
  have lg := h.lt
  have hsh : W.shape? g = some (54, 3) := by unfold Whl at h; simp [World.shape?, h]
  go_enter Tryz.func75, Tryz.ntmps75
  go_wp2
  rw [Lib.run_to_unsafe W ⟨g, 0, none⟩ Tryz.underlying49 Tryz.underlying153 hj (by rw [hjs]; decide) hsh (Nat.zero_lt_succ 2)]
  simp only [Result.andThen]
  rw [Oper.upon_value]
  go_wp2
  rw [run_callFunc_extern Tryz.func99 (by kernel_rfl) (by kernel_rfl) (by kernel_rfl) (e := Extern.AbiNoEscape.same) (by kernel_rfl)]
  rw [Lib.run_noEscape]
  simp only [Result.andThen]
  rw [Oper.upon_value]
  go_wp2
  rw [Lib.run_from_unsafe W ⟨g, 0, none⟩ Tryz.underlying153 Tryz.underlying49 hj hsh (by kernel_rfl)]
  simp only [Result.andThen]
  rw [Oper.upon_value]
  go_wp2
  go_end0
  exact ⟨rfl, rfl⟩
/-- The printer, used or not. -/
def Prn (W : World) (B g : Nat) (l : List UInt8) (d : Int) : Prop := ∃ a v, (a = none ∨ a = some ⟨g, 0, none⟩) ∧ PrW W B g l a v d
theorem ckP (W : World) (B g : Nat) (l : List UInt8) (d : Int) (h : Prn W B g l d) :
    Calls Tryz.prog 75 #[.pointer (some ⟨g, 0, none⟩)] W fun e w' => e = .returned (.tuple #[]) ∧ (∃ v, PrW w' B g l (some ⟨g, 0, none⟩) v d) ∧ Turn B g W w' := by
  obtain ⟨a, v, rfl | rfl, hp⟩ := h
  · refine (ckFresh g v d W hp.whl).mono ?_
    rintro e w' ⟨rfl, rfl⟩
    exact ⟨rfl, ⟨v, hp.whl.put 0 _, ownB_far' hp.own (ownB_far hp.own hp.whl (by decide)), hp.low, hp.nil⟩, (Turn.refl B g W).put hp.low 0 _⟩
  · refine (ckUsed g W (hp.whl.cell 0)).mono ?_
    rintro e w' ⟨rfl, rfl⟩
    exact ⟨rfl, ⟨v, hp⟩, Turn.refl B g W⟩
theorem Turn.grow {B g : Nat} {W W1 W2 : World} {v : Value} {l : List UInt8} (h : Turn B g W W1) (ho : OwnB W1 B v l) (hg : W1.grownBy W2 v.ownBlock) (hB : B ≤ W1.heap.size) : Turn B g W W2 :=
  ⟨h.below.grown hg hB (ownB_base ho), fun b t cs hb ht hw => (h.keep b t cs hb ht hw).grown hg (ownB_far ho (h.keep b t cs hb ht hw) ht)⟩
set_option maxRecDepth 100000 in
set_option maxHeartbeats 1000000 in
theorem writeP (s : ByteArray) (W : World) (B g : Nat) (l : List UInt8) (d : Int) (h : Prn W B g l d) (hlen : l.length + s.size ≤ 70368744177664) :
    Calls Tryz.prog 53 #[.pointer (some ⟨g, 0, none⟩), .string s] W fun e w' => e = .returned (.tuple #[.int .i64 s.size, .nilIface]) ∧ Prn w' B g (l ++ bytesOf' s) d ∧ Turn B g W w' := by
  obtain ⟨i0, hi, hz0, hz1, hz2⟩ := info_parts infoB
  have H := Lib.hid h
  clear h
  go_enter Tryz.func53, Tryz.ntmps53
  go_wp2_with (first
    | (go_at_call 75; go_must (refine (ckP W B g l d H.out).mono ?_; rintro e w1 ⟨rfl, ⟨v, hp⟩, ht⟩; have HO := Lib.hid hp.own; have hw := hp.whl; obtain ⟨c0, c1, c2⟩ := hw.c3; have lg := hw.lt; have low := hp.low; have HN := Lib.hid hp.nil; have z1 := hw.frozen 1))
    | (at_builtin; go_must (refine Lib.wpList_append_own_string _ rfl _ _ 50 9 rfl B 5 i0 Tryz.underlying50 Tryz.underlying9 hi hz0 hz1 hz2 _ _ _ rfl HO.out s rfl (by unfold maxLen; omega) (by omega) (by omega) ?_; intro v2 w2 hown hgrow hiff; have HI := Lib.hid hiff; clear hiff; have hw2 := hw.grown hgrow (ownB_far HO.out hw (by decide)); obtain ⟨d0, d1, d2⟩ := hw2.c3; have y1 := hw2.frozen 1; have lg2 := hw2.lt; have hown2 : OwnB w2 B v2 (l ++ bytesOf' s) := (by unfold OwnB; rw [U8s_app, List.length_append]; exact hown); obtain ⟨A2, n2, cp2, rfl⟩ := ownB_slice' hown2)))
  refine ret_of ?_ rfl
  refine ⟨_, by simp [results, Tryz.results53, go_sem] <;> rfl, rfl, ⟨_, _, .inr rfl, hw2.put 1 _, ownB_far' hown2 (ownB_far hown2 hw2 (by decide)), low, fun e => HI.out.2 ⟨HN.out (List.append_eq_nil_iff.1 e).1, by have := congrArg List.length (List.append_eq_nil_iff.1 e).2; exact this⟩⟩, (ht.grow HO.out hgrow (by omega)).put low 1 _⟩
set_option maxRecDepth 100000 in
set_option maxHeartbeats 1000000 in
theorem putP (ps : List (List UInt8)) (b c : Nat) (W : World) (B g : Nat) (l : List UInt8) (d : Int) (h : Prn W B g l d) (hb : Whl W b 9 (ps.map strV).toArray) (hlen : l.length + ps.flatten.length ≤ 70368744177664) (hn : ps.length ≤ 1000) :
    Calls Tryz.prog 31 #[.pointer (some ⟨g, 0, none⟩), .slice (some ⟨b, 0, none⟩) ps.length c] W fun e w' => e = .returned (.tuple #[]) ∧ Prn w' B g (l ++ ps.flatten) d ∧ Turn B g W w' := by
  have H := Lib.hid h
  have hbg : b ≠ g := fun e => by
    subst e
    obtain ⟨a, v, _, hp⟩ := h
    exact absurd (hb.type_eq hp.whl) (by decide)
  clear h
  go_enter Tryz.func31, Tryz.ntmps31
  go_wp2
  go_loopw [8] (fun i w' => ∃ k : Nat, k ≤ ps.length ∧ i = .int .i64 k ∧ Prn w' B g (l ++ (ps.take k).flatten) d ∧ Turn B g W w') (fun i _ => ps.length - (intOf i).toNat)
  case atStart => exact ⟨0, Nat.zero_le _, rfl, by simpa using H.out, Turn.refl _ _ _⟩
  case round =>
    obtain ⟨k, hk, rfl, hP, hT⟩ := hrel
    have HP := Lib.hid hP
    clear hP
    by_cases hlt : k < ps.length
    · have hbk := hT.keep b _ _ hbg (by decide) hb
      have c0 : wr.cell? ⟨b, k, none⟩ = some (strV (ps.getD k [])) := by
        rw [hbk.cell k]; simp [List.getD_eq_getElem?_getD, hlt]
      have hsn : Hid ((ps.take (k + 1)).flatten = (ps.take k).flatten ++ ps.getD k []) := Lib.hid (by rw [take_snoc [] hlt, List.flatten_append]; simp)
      have hcut : Hid (ps.flatten = (ps.take (k + 1)).flatten ++ (ps.drop (k + 1)).flatten) := Lib.hid (by rw [← List.flatten_append, List.take_append_drop])
      have hl2 : (l ++ (ps.take k).flatten).length + (ps.getD k []).length ≤ 70368744177664 := by
        have e1 := congrArg List.length hcut.out
        have e2 := congrArg List.length hsn.out
        rw [List.length_append] at *
        omega
      have HL := Lib.hid hl2
      clear hl2
      revert c0 hsn HL
      generalize ps.getD k [] = p
      intro c0 hsn HL
      go_wp2_with (go_at_call 53; go_must (refine (writeP ⟨p.toArray⟩ _ B g _ d HP.out HL.out).mono ?_; rintro e w1 ⟨rfl, hP1, hT1⟩))
      go_roundw
      case rel => exact ⟨k + 1, by omega, by go_num, by rw [hsn.out, ← List.append_assoc]; exact hP1, hT.trans hT1⟩
      case measure => simp [intOf]; omega
    · obtain rfl : k = ps.length := by omega
      go_wp2
      refine end_of ?_ rfl
      exact ⟨_, by simp [results, Tryz.results31, go_sem], rfl, by have := HP.out; rwa [List.take_length] at this, hT⟩
end Go.Proofs.YtdddppmfeoebgaaGreatDoor
