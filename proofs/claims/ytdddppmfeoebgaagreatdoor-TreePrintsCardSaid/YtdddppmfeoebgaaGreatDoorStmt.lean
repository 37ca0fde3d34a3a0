/-
  Layer 2 (tree): the printer's stmt and body, all kinds.
-/
import Derived.Test.YtdddppmfeoebgaaGreatDoorStmtB
import Derived.Test.YtdddppmfeoebgaaGreatDoorStmtC
import Derived.Test.YtdddppmfeoebgaaGreatDoorStmtD
import Derived.Test.YtdddppmfeoebgaaGreatDoorStmtE
namespace Go.Proofs.YtdddppmfeoebgaaGreatDoor
open Go.RowKit
set_option linter.unusedSimpArgs false
set_option linter.unusedVariables false
theorem stmt_of (N : Nat) (H : BodyAt N) : StmtAt (N + 1) := by
  intro x h q lv n B g l W hs hgo hin hn hc hp hB ht hlen
  have hk : 1 ≤ x.kind ∧ x.kind ≤ 10 := by obtain ⟨_, f, _⟩ := hgo; exact formS_kind f
  rcases (by omega : x.kind = 1 ∨ x.kind = 2 ∨ x.kind = 3 ∨ x.kind = 4 ∨ x.kind = 5 ∨ x.kind = 6 ∨ x.kind = 7 ∨ x.kind = 8 ∨ x.kind = 9 ∨ x.kind = 10) with e | e | e | e | e | e | e | e | e | e
  · exact stmt_1 N H x e h q lv n B g l W hs hgo hin hn hc hp hB ht hlen
  · exact stmt_2 N H x e h q lv n B g l W hs hgo hin hn hc hp hB ht hlen
  · exact stmt_3 N H x e h q lv n B g l W hs hgo hin hn hc hp hB ht hlen
  · exact stmt_4 N H x e h q lv n B g l W hs hgo hin hn hc hp hB ht hlen
  · exact stmt_5 N H x e h q lv n B g l W hs hgo hin hn hc hp hB ht hlen
  · exact stmt_6 N H x e h q lv n B g l W hs hgo hin hn hc hp hB ht hlen
  · exact stmt_7 N H x e h q lv n B g l W hs hgo hin hn hc hp hB ht hlen
  · exact stmt_8 N H x e h q lv n B g l W hs hgo hin hn hc hp hB ht hlen
  · exact stmt_9 N H x e h q lv n B g l W hs hgo hin hn hc hp hB ht hlen
  · exact stmt_10 N H x e h q lv n B g l W hs hgo hin hn hc hp hB ht hlen
theorem stAll (N : Nat) : StmtAt N ∧ BodyAt N := by
  induction N with
  | zero => exact ⟨fun x h q lv n B g l W hs => by omega, fun b A c lv n B g l W hs => by omega⟩
  | succ N ih => exact ⟨stmt_of N ih.2, body_of N ih.1⟩
/-- A function's body is printed. -/
theorem bodyP (b : List StD) (A : Option Addr) (c B g : Nat) (l : List UInt8) (W : World) (hg : ∀ k, k < b.length → GoodS 1 (nthS b k)) (hb : StsAt W B A b) (hc : cntSs b ≤ 4096) (hp : Prn W B g l 0) (hB : B ≤ W.heap.size) (ht : Tab W B) (hlen : l.length + (stTs b 1).length ≤ 1099511627776) :
    Calls Tryz.prog 13 #[.pointer (some ⟨g, 0, none⟩), .slice A b.length c] W fun e w' => e = .returned (.tuple #[]) ∧ Prn w' B g (l ++ stTs b 1) 0 ∧ Turn B g W w' :=
  (stAll _).2 b A c 1 0 B g l W (Nat.lt_succ_self _) hg hb (by omega) (by omega) hc hp hB ht hlen
end Go.Proofs.YtdddppmfeoebgaaGreatDoor
