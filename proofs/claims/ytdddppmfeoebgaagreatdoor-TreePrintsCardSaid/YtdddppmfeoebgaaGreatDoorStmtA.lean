/-
  Layer 2 (tree): the walks of the printer's body and stmt.
-/
import Derived.Test.YtdddppmfeoebgaaGreatDoorLine
import Derived.Test.YtdddppmfeoebgaaGreatDoorText
import Derived.Test.YtdddppmfeoebgaaGreatDoorGood
import Derived.Deep.RegionHeld3
namespace Go.Proofs.YtdddppmfeoebgaaGreatDoor
open Go.RowKit
set_option linter.unusedSimpArgs false
set_option linter.unusedVariables false
theorem stT_1 {x : StD} (h : x.kind = 1) (d : Nat) : stT x d = lineT d ([[108, 101, 116, 32], bytesOf' x.name, [32, 61, 32], exT x.a, [59]] : List (List UInt8)).flatten := by rw [stT_eq, stT, h]; simp
theorem stT_2 {x : StD} (h : x.kind = 2) (d : Nat) : stT x d = lineT d ([[108, 101, 116, 32], bytesOf' x.name, [91], numD x.n, [93, 59]] : List (List UInt8)).flatten := by rw [stT_eq, stT, h]; simp
theorem stT_3 {x : StD} (h : x.kind = 3) (d : Nat) : stT x d = lineT d ([bytesOf' x.name, [32, 61, 32], exT x.a, [59]] : List (List UInt8)).flatten := by rw [stT_eq, stT, h]; simp
theorem stT_4 {x : StD} (h : x.kind = 4) (d : Nat) : stT x d = lineT d ([bytesOf' x.name, [91], exT x.a, [93, 32, 61, 32], exT x.b, [59]] : List (List UInt8)).flatten := by rw [stT_eq, stT, h]; simp
theorem stT_5 {x : StD} (h : x.kind = 5) (d : Nat) : stT x d = lineT d ([[105, 102, 32], exT x.a, [32, 123]] : List (List UInt8)).flatten ++ (stTs x.body (d + 1) ++ ((if x.els.length = 0 then [] else lineT d ([[125, 32, 101, 108, 115, 101, 32, 123]] : List (List UInt8)).flatten ++ stTs x.els (d + 1)) ++ lineT d ([[125]] : List (List UInt8)).flatten)) := by rw [stT_eq, stT, h]; simp
theorem stT_6 {x : StD} (h : x.kind = 6) (d : Nat) : stT x d = lineT d ([[115, 119, 105, 116, 99, 104, 32], exT x.a, [32, 123]] : List (List UInt8)).flatten ++ (caTs x.cases (d + 1) ++ ((if x.els.length = 0 then [] else lineT (d + 1) ([[101, 108, 115, 101, 32, 123]] : List (List UInt8)).flatten ++ (stTs x.els (d + 1 + 1) ++ lineT (d + 1) ([[125]] : List (List UInt8)).flatten)) ++ lineT d ([[125]] : List (List UInt8)).flatten)) := by rw [stT_eq, stT, h]; simp
theorem stT_7 {x : StD} (h : x.kind = 7) (d : Nat) : stT x d = lineT d ([[102, 111, 114, 32], bytesOf' x.name, [32, 105, 110, 32], exT x.a, [46, 46], exT x.b, [32, 123]] : List (List UInt8)).flatten ++ (stTs x.body (d + 1) ++ lineT d ([[125]] : List (List UInt8)).flatten) := by rw [stT_eq, stT, h]; simp
theorem stT_8 {x : StD} (h : x.kind = 8) (d : Nat) : stT x d = lineT d ([[98, 114, 101, 97, 107, 59]] : List (List UInt8)).flatten := by rw [stT_eq, stT, h]; simp
theorem stT_9 {x : StD} (h : x.kind = 9) (d : Nat) : stT x d = lineT d ([[114, 101, 116, 117, 114, 110, 32], exT x.a, [59]] : List (List UInt8)).flatten := by rw [stT_eq, stT, h]; simp
theorem stT_10 {x : StD} (h : x.kind = 10) (d : Nat) : stT x d = lineT d ([exT x.a, [59]] : List (List UInt8)).flatten := by rw [stT_eq, stT, h]; simp
theorem caT_in (x : CaD) (d : Nat) : caT x d = lineT d ([[99, 97, 115, 101, 32], numD x.n, [32, 123]] : List (List UInt8)).flatten ++ (stTs x.body (d + 1) ++ lineT d ([[125]] : List (List UInt8)).flatten) := by rw [caT_eq]; simp
theorem GoodS.body {lv : Nat} {x : StD} : GoodS lv x → ∀ k, k < x.body.length → GoodS (lv + 1) (nthS x.body k) := fun ⟨_, _, _, _, _, _, _, b, _, _, _⟩ => b
theorem GoodS.els {lv : Nat} {x : StD} : GoodS lv x → ∀ k, k < x.els.length → GoodS (lv + 1) (nthS x.els k) := fun ⟨_, _, _, _, _, _, _, _, b, _, _⟩ => b
theorem GoodS.cn {lv : Nat} {x : StD} : GoodS lv x → ∀ j, j < x.cases.length → In64 (nthC x.cases j).n := fun ⟨_, _, _, _, _, _, _, _, _, b, _⟩ => b
theorem GoodS.cases {lv : Nat} {x : StD} : GoodS lv x → ∀ j, j < x.cases.length → ∀ k, k < (nthC x.cases j).body.length → GoodS (lv + 1) (nthS (nthC x.cases j).body k) := fun ⟨_, _, _, _, _, _, _, _, _, _, b⟩ => b
/-- The table of powers of ten, below B. -/
structure Tab (W : World) (B : Nat) : Prop where
  pow : Pow10 W
  low : ∀ g, Tryz.prog.globalNamed "internal/strconv.uint64pow10" = some g → g < B
theorem Tab.below {W W2 : World} {B : Nat} (h : Tab W B) (hb : Below B W W2) : Tab W2 B := ⟨h.pow.below hb h.low, h.low⟩
def StmtAt (N : Nat) : Prop := ∀ (x : StD) (h : HdS) (q : Nat → Hd) (lv n B g : Nat) (l : List UInt8) (W : World), SizeOf.sizeOf x < N → GoodS lv x → StIn W B x h q → n ≤ 2 * lv → cntS x ≤ 4096 → Prn W B g l (n : Int) → B ≤ W.heap.size → Tab W B → l.length + (stT x n).length ≤ 1099511627776 →
    Calls Tryz.prog 34 #[.pointer (some ⟨g, 0, none⟩), .agg (stC x h)] W fun e w' => e = .returned (.tuple #[]) ∧ Prn w' B g (l ++ stT x n) (n : Int) ∧ Turn B g W w'
def BodyAt (N : Nat) : Prop := ∀ (b : List StD) (A : Option Addr) (c lv n B g : Nat) (l : List UInt8) (W : World), SizeOf.sizeOf b < N → (∀ k, k < b.length → GoodS lv (nthS b k)) → StsAt W B A b → n + 1 ≤ 2 * lv → n ≤ 70 → cntSs b ≤ 4096 → Prn W B g l (n : Int) → B ≤ W.heap.size → Tab W B → l.length + (stTs b (n + 1)).length ≤ 1099511627776 →
    Calls Tryz.prog 13 #[.pointer (some ⟨g, 0, none⟩), .slice A b.length c] W fun e w' => e = .returned (.tuple #[]) ∧ Prn w' B g (l ++ stTs b (n + 1)) (n : Int) ∧ Turn B g W w'
theorem cntSs_at {l : List StD} {k : Nat} (h : k < l.length) : cntS (nthS l k) ≤ cntSs l := by
  have e1 := cntSs_snoc h
  have e2 := cntSs_cut l (k + 1)
  omega
theorem stTs_cut (l : List StD) (d k : Nat) : stTs l d = stTs (l.take k) d ++ stTs (l.drop k) d := fold_cut (op := (· ++ ·)) (e := []) (f := fun t => stTs t d) (g := fun x => stT x d) List.nil_append List.append_assoc (by rw [stTs]) (fun x r => by rw [stTs]) _ _
theorem caTs_cut (l : List CaD) (d k : Nat) : caTs l d = caTs (l.take k) d ++ caTs (l.drop k) d := fold_cut (op := (· ++ ·)) (e := []) (f := fun t => caTs t d) (g := fun x => caT x d) List.nil_append List.append_assoc (by rw [caTs]) (fun x r => by rw [caTs]) _ _
set_option maxRecDepth 100000 in
set_option maxHeartbeats 4000000 in
theorem body_of (N : Nat) (H : StmtAt N) : BodyAt (N + 1) := by
  intro b A c lv n B g l W hs hg hb hn hn7 hc hp hB ht hlen
  obtain ⟨c2, z2, lg, low⟩ := hp.read
  obtain ⟨hd, hcs, rows, kids, len⟩ := hb.open_
  have HR := Lib.hid rows
  have HK := Lib.hid kids
  have HG := Lib.hid hg
  have HP := Lib.hid hp
  have HT := Lib.hid ht
  have HH := Lib.hid H
  clear rows kids hb hg hp ht H
  have W1 := Lib.hid (HP.out.deep ((n : Int) + 1))
  go_enter Tryz.func13, Tryz.ntmps13
  go_wp2
  go_loopw [15] (fun i W' => ∃ k : Nat, k ≤ b.length ∧ i = .int .i64 k ∧ Prn W' B g (l ++ stTs (b.take k) (n + 1)) ((n : Int) + 1) ∧ Turn B g W W') (fun i _ => b.length - (intOf i).toNat)
  case atStart => exact ⟨0, Nat.zero_le _, rfl, by simpa [stTs] using W1.out, (Turn.refl B g W).put low 2 _⟩
  case round =>
    obtain ⟨k, hk, rfl, hP, hT⟩ := hrel
    obtain ⟨d2, y2, lg2, _⟩ := hP.read
    have l1 := hT.size
    have HPk := Lib.hid hP
    clear hP c2 z2
    by_cases hlt : k < b.length
    · obtain ⟨bb, off, rfl, c0, c1, c2, c3, c4, c5, c6, c7, c8, c9, c10, c11, c12, c13⟩ := HR.out g wr hT k hlt
      have hsz : SizeOf.sizeOf (nthS b k) < SizeOf.sizeOf b := getD_size _ hlt
      have hcn := cntSs_at hlt
      have hsn := Lib.hid (stTs_snoc (d := n + 1) hlt)
      have hct := Lib.hid (stTs_cut b (n + 1) (k + 1))
      have hin := Lib.hid ((HK.out k hlt).turn hT)
      have hgo := Lib.hid (HG.out k hlt)
      revert c0 c1 c2 c3 c4 c5 c6 c7 c8 c9 c10 c11 c12 c13 hsz hcn hsn hin hgo
      generalize nthS b k = x
      generalize hd k = h
      generalize hcs k = q
      intro c0 c1 c2 c3 c4 c5 c6 c7 c8 c9 c10 c11 c12 c13 hsz hcn hsn hin hgo
      go_wp2_with (go_at_call 34; go_must (refine (HH.out x h q lv (n + 1) B g _ _ (by omega) hgo.out (hin.out.turn ((Turn.refl B g wr).alloc (by omega) _)) hn (by omega) (HPk.out.alloc _) (by simp; omega) (HT.out.below (hT.alloc hB _).below) (by have e1 := congrArg List.length hct.out; have e2 := congrArg List.length hsn.out; rw [List.length_append] at *; omega)).mono ?_; rintro e w1 ⟨rfl, hP1, hT1⟩))
      go_roundw
      case rel => exact ⟨k + 1, by omega, by go_num, by rw [hsn.out, ← List.append_assoc]; exact hP1, (hT.alloc hB _).trans hT1⟩
      case measure => simp [intOf]; omega
    · obtain rfl : k = b.length := by omega
      have W2 := Lib.hid (HPk.out.deep (n : Int))
      go_wp2
      refine end_of ?_ rfl
      refine ⟨_, by simp [results, Tryz.results13, go_sem], rfl, ?_, hT.put low 2 _⟩
      have := W2.out
      rwa [List.take_length] at this
end Go.Proofs.YtdddppmfeoebgaaGreatDoor
