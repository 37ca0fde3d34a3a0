/-
  No cell of these rows narrows 'for every input' (looked for: loops, veiled, ifaces, maps, wideKeys, modest, calm, conditions, laid).
  DERIVED. THE GIVEN ROWS OF THIS SEAT. 8 by the template 'for every input the law returns true; each argument reads behind the call as it read before'; 0 by the template 'total and deterministic' (their statements: YtdoikgjdjdgnbaaTotals.lean).
  GIVEN WITH THE SEED: the statements are not yours to turn. If you find one false, say at which input.
  Laid BY PROGRAM, IN A SANDBOX (cutbox-rows.mjs): the forced cells as the released guide's own fill.sh prints them over the translation 3c36a8d7f6441203… (all of the seat's roots in one cut). By AI agents, Wed Nov 11 2026. No macro, syntax, notation, axiom, sorry.
-/
import Derived.Test.YtdoikgjdjdgnbaaChecked
import GoSem.Claim
import GoSem.ClaimJoined
import GoSem.ClaimMapViews
import Derived.JoinedTies
import Derived.KernelRfl
namespace Go.Proofs.Ytdoikgjdjdgnbaa
/- THE CELL 'sum', in the pinned program and in every row, IS THE sha256 OF THE DUMP (.gsa) THAT YtdoikgjdjdgnbaaProg.lean LOADS. Nothing in Lean hashes anything: it is a label: what it is worth is what the hold of that sum in a sandbox is worth. -/
noncomputable def Try.pinned : Pinned := { name := "ytdoikgjdjdgnbaa", sum := "3c36a8d7f6441203cbcab7d54fd50145be25632297472ed89a4d9104c5d09211", checked := Try.checked }
namespace Rows
def none {H : Type} : Left H := { results := [], args := [] }

/-- 'soffitlaw08.SpanJoins': WHATEVER THE INPUT: true; the input reads as it did. -/
def spanJoinsSpec : ChangeSpec := { name := "spanJoins", fn := fun _ => fun
  | [d1, d2, d3] => { results := [.lit (.bool true)], args := [d1, d2, d3] }
  | _ => none }
def spanJoinsRow : OpenClaim := { program := "ytdoikgjdjdgnbaa", sum := "3c36a8d7f6441203cbcab7d54fd50145be25632297472ed89a4d9104c5d09211", func := "soffit/soffitlaw08.SpanJoins", spec := "spanJoins", apart := false }
def SpanJoinsSaid : Prop := spanJoinsRow.holds Try.pinned (OpenSpec.ofChange spanJoinsSpec)

/-- ITS FALSE NEIGHBOUR: 'it returns false'. Refute it at one input. -/
def spanJoinsWrong : ChangeSpec := { name := "spanJoins", fn := fun _ => fun
  | [d1, d2, d3] => { results := [.lit (.bool false)], args := [d1, d2, d3] }
  | _ => none }
def SpanJoinsWrongFalsely : Prop := spanJoinsRow.holds Try.pinned (OpenSpec.ofChange spanJoinsWrong)

/-- 'soffitlaw08.SpanDoes': WHATEVER THE INPUT: true; the input reads as it did. -/
def spanDoesSpec : ChangeSpec := { name := "spanDoes", fn := fun _ => fun
  | [d1, d2, d3] => { results := [.lit (.bool true)], args := [d1, d2, d3] }
  | _ => none }
def spanDoesRow : OpenClaim := { program := "ytdoikgjdjdgnbaa", sum := "3c36a8d7f6441203cbcab7d54fd50145be25632297472ed89a4d9104c5d09211", func := "soffit/soffitlaw08.SpanDoes", spec := "spanDoes", apart := false }
def SpanDoesSaid : Prop := spanDoesRow.holds Try.pinned (OpenSpec.ofChange spanDoesSpec)

/-- ITS FALSE NEIGHBOUR: 'it returns false'. Refute it at one input. -/
def spanDoesWrong : ChangeSpec := { name := "spanDoes", fn := fun _ => fun
  | [d1, d2, d3] => { results := [.lit (.bool false)], args := [d1, d2, d3] }
  | _ => none }
def SpanDoesWrongFalsely : Prop := spanDoesRow.holds Try.pinned (OpenSpec.ofChange spanDoesWrong)

/-- 'soffitlaw08.SpanBelows': WHATEVER THE INPUT: true; the input reads as it did. -/
def spanBelowsSpec : ChangeSpec := { name := "spanBelows", fn := fun _ => fun
  | [d1, d2] => { results := [.lit (.bool true)], args := [d1, d2] }
  | _ => none }
def spanBelowsRow : OpenClaim := { program := "ytdoikgjdjdgnbaa", sum := "3c36a8d7f6441203cbcab7d54fd50145be25632297472ed89a4d9104c5d09211", func := "soffit/soffitlaw08.SpanBelows", spec := "spanBelows", apart := false }
def SpanBelowsSaid : Prop := spanBelowsRow.holds Try.pinned (OpenSpec.ofChange spanBelowsSpec)

/-- ITS FALSE NEIGHBOUR: 'it returns false'. Refute it at one input. -/
def spanBelowsWrong : ChangeSpec := { name := "spanBelows", fn := fun _ => fun
  | [d1, d2] => { results := [.lit (.bool false)], args := [d1, d2] }
  | _ => none }
def SpanBelowsWrongFalsely : Prop := spanBelowsRow.holds Try.pinned (OpenSpec.ofChange spanBelowsWrong)

/-- 'soffitlaw08.SpanWidens': WHATEVER THE INPUT: true; the input reads as it did. -/
def spanWidensSpec : ChangeSpec := { name := "spanWidens", fn := fun _ => fun
  | [d1, d2, d3] => { results := [.lit (.bool true)], args := [d1, d2, d3] }
  | _ => none }
def spanWidensRow : OpenClaim := { program := "ytdoikgjdjdgnbaa", sum := "3c36a8d7f6441203cbcab7d54fd50145be25632297472ed89a4d9104c5d09211", func := "soffit/soffitlaw08.SpanWidens", spec := "spanWidens", apart := false }
def SpanWidensSaid : Prop := spanWidensRow.holds Try.pinned (OpenSpec.ofChange spanWidensSpec)

/-- ITS FALSE NEIGHBOUR: 'it returns false'. Refute it at one input. -/
def spanWidensWrong : ChangeSpec := { name := "spanWidens", fn := fun _ => fun
  | [d1, d2, d3] => { results := [.lit (.bool false)], args := [d1, d2, d3] }
  | _ => none }
def SpanWidensWrongFalsely : Prop := spanWidensRow.holds Try.pinned (OpenSpec.ofChange spanWidensWrong)

/-- 'soffitlaw08.SpanTrue': WHATEVER THE INPUT: true; the input reads as it did. -/
def spanTrueSpec : ChangeSpec := { name := "spanTrue", fn := fun _ => fun
  | [d1, d2, d3, d4, d5] => { results := [.lit (.bool true)], args := [d1, d2, d3, d4, d5] }
  | _ => none }
def spanTrueRow : OpenClaim := { program := "ytdoikgjdjdgnbaa", sum := "3c36a8d7f6441203cbcab7d54fd50145be25632297472ed89a4d9104c5d09211", func := "soffit/soffitlaw08.SpanTrue", spec := "spanTrue", apart := false }
def SpanTrueSaid : Prop := spanTrueRow.holds Try.pinned (OpenSpec.ofChange spanTrueSpec)

/-- ITS FALSE NEIGHBOUR: 'it returns false'. Refute it at one input. -/
def spanTrueWrong : ChangeSpec := { name := "spanTrue", fn := fun _ => fun
  | [d1, d2, d3, d4, d5] => { results := [.lit (.bool false)], args := [d1, d2, d3, d4, d5] }
  | _ => none }
def SpanTrueWrongFalsely : Prop := spanTrueRow.holds Try.pinned (OpenSpec.ofChange spanTrueWrong)

/-- 'soffitlaw08.SpanKeeps': WHATEVER THE INPUT: true; the input reads as it did. -/
def spanKeepsSpec : ChangeSpec := { name := "spanKeeps", fn := fun _ => fun
  | [d1, d2, d3, d4] => { results := [.lit (.bool true)], args := [d1, d2, d3, d4] }
  | _ => none }
def spanKeepsRow : OpenClaim := { program := "ytdoikgjdjdgnbaa", sum := "3c36a8d7f6441203cbcab7d54fd50145be25632297472ed89a4d9104c5d09211", func := "soffit/soffitlaw08.SpanKeeps", spec := "spanKeeps", apart := false }
def SpanKeepsSaid : Prop := spanKeepsRow.holds Try.pinned (OpenSpec.ofChange spanKeepsSpec)

/-- ITS FALSE NEIGHBOUR: 'it returns false'. Refute it at one input. -/
def spanKeepsWrong : ChangeSpec := { name := "spanKeeps", fn := fun _ => fun
  | [d1, d2, d3, d4] => { results := [.lit (.bool false)], args := [d1, d2, d3, d4] }
  | _ => none }
def SpanKeepsWrongFalsely : Prop := spanKeepsRow.holds Try.pinned (OpenSpec.ofChange spanKeepsWrong)

/-- 'soffitlaw08.SpanGrows': WHATEVER THE INPUT: true; the input reads as it did. -/
def spanGrowsSpec : ChangeSpec := { name := "spanGrows", fn := fun _ => fun
  | [d1, d2, d3, d4, d5] => { results := [.lit (.bool true)], args := [d1, d2, d3, d4, d5] }
  | _ => none }
def spanGrowsRow : OpenClaim := { program := "ytdoikgjdjdgnbaa", sum := "3c36a8d7f6441203cbcab7d54fd50145be25632297472ed89a4d9104c5d09211", func := "soffit/soffitlaw08.SpanGrows", spec := "spanGrows", apart := false }
def SpanGrowsSaid : Prop := spanGrowsRow.holds Try.pinned (OpenSpec.ofChange spanGrowsSpec)

/-- ITS FALSE NEIGHBOUR: 'it returns false'. Refute it at one input. -/
def spanGrowsWrong : ChangeSpec := { name := "spanGrows", fn := fun _ => fun
  | [d1, d2, d3, d4, d5] => { results := [.lit (.bool false)], args := [d1, d2, d3, d4, d5] }
  | _ => none }
def SpanGrowsWrongFalsely : Prop := spanGrowsRow.holds Try.pinned (OpenSpec.ofChange spanGrowsWrong)

/-- 'soffitlaw08.SpanEnds': WHATEVER THE INPUT: true; the input reads as it did. -/
def spanEndsSpec : ChangeSpec := { name := "spanEnds", fn := fun _ => fun
  | [d1, d2] => { results := [.lit (.bool true)], args := [d1, d2] }
  | _ => none }
def spanEndsRow : OpenClaim := { program := "ytdoikgjdjdgnbaa", sum := "3c36a8d7f6441203cbcab7d54fd50145be25632297472ed89a4d9104c5d09211", func := "soffit/soffitlaw08.SpanEnds", spec := "spanEnds", apart := false }
def SpanEndsSaid : Prop := spanEndsRow.holds Try.pinned (OpenSpec.ofChange spanEndsSpec)

/-- ITS FALSE NEIGHBOUR: 'it returns false'. Refute it at one input. -/
def spanEndsWrong : ChangeSpec := { name := "spanEnds", fn := fun _ => fun
  | [d1, d2] => { results := [.lit (.bool false)], args := [d1, d2] }
  | _ => none }
def SpanEndsWrongFalsely : Prop := spanEndsRow.holds Try.pinned (OpenSpec.ofChange spanEndsWrong)

/- THE SECOND FORM. 'bulk': how many values and letters a reading holds, each counted each time it is reached (what is shared counts as often as it is met; a slice's spare places count too). A statement '..UptoSaid' is the law's where the arguments, and the package variables that the reading takes, are together of bulk at most 1048576: NARROWER than '..Said'. Prove '..Said' where nothing that the law and all that it calls make is longer than what came in: it says more and counts as full. Else prove '..UptoSaid'. A law counts once. -/
mutual
def uptoBulk {H : Type} : DataW H → Nat
  | .lit (.string bytes) => bytes.length + 1
  | .lit _ => 1
  | .nil => 1
  | .ptr d => uptoBulk d + 1
  | .slice elems spare => uptoBulkAll elems + uptoBulkAll spare + 1
  | .agg parts => uptoBulkAll parts + 1
  | .iface _ d => uptoBulk d + 1
  | .map entries => uptoBulkEntries entries + 1
  | .held _ => 1
def uptoBulkAll {H : Type} : List (DataW H) → Nat
  | [] => 0
  | d :: r => uptoBulk d + uptoBulkAll r
def uptoBulkEntries {H : Type} : List (Lit × DataW H) → Nat
  | [] => 0
  | x :: r => uptoBulkEntry x + uptoBulkEntries r
def uptoBulkEntry {H : Type} : Lit × DataW H → Nat
  | (.string bytes, d) => bytes.length + uptoBulk d + 1
  | (_, d) => uptoBulk d + 1
 end
def uptoSmall : (H : Type) → List (DataW H) → Bool := fun _ ds => decide (uptoBulkAll ds ≤ 1048576)
def OpenSpec.upto (s : _root_.Go.ChangeSpec) : _root_.Go.OpenSpec := { _root_.Go.OpenSpec.ofChange s with cond := some uptoSmall }

/-- 'soffitlaw08.SpanJoins', WHERE WHAT IT READS IS OF BULK AT MOST 1048576: true; the input reads as it did. -/
def spanJoinsUptoRow : OpenClaim := { program := "ytdoikgjdjdgnbaa", sum := "3c36a8d7f6441203cbcab7d54fd50145be25632297472ed89a4d9104c5d09211", func := "soffit/soffitlaw08.SpanJoins", spec := "spanJoins", apart := false, narrowed := true }
def SpanJoinsUptoSaid : Prop := spanJoinsUptoRow.holds Try.pinned (OpenSpec.upto spanJoinsSpec)

/-- 'soffitlaw08.SpanDoes', WHERE WHAT IT READS IS OF BULK AT MOST 1048576: true; the input reads as it did. -/
def spanDoesUptoRow : OpenClaim := { program := "ytdoikgjdjdgnbaa", sum := "3c36a8d7f6441203cbcab7d54fd50145be25632297472ed89a4d9104c5d09211", func := "soffit/soffitlaw08.SpanDoes", spec := "spanDoes", apart := false, narrowed := true }
def SpanDoesUptoSaid : Prop := spanDoesUptoRow.holds Try.pinned (OpenSpec.upto spanDoesSpec)

/-- 'soffitlaw08.SpanBelows', WHERE WHAT IT READS IS OF BULK AT MOST 1048576: true; the input reads as it did. -/
def spanBelowsUptoRow : OpenClaim := { program := "ytdoikgjdjdgnbaa", sum := "3c36a8d7f6441203cbcab7d54fd50145be25632297472ed89a4d9104c5d09211", func := "soffit/soffitlaw08.SpanBelows", spec := "spanBelows", apart := false, narrowed := true }
def SpanBelowsUptoSaid : Prop := spanBelowsUptoRow.holds Try.pinned (OpenSpec.upto spanBelowsSpec)

/-- 'soffitlaw08.SpanWidens', WHERE WHAT IT READS IS OF BULK AT MOST 1048576: true; the input reads as it did. -/
def spanWidensUptoRow : OpenClaim := { program := "ytdoikgjdjdgnbaa", sum := "3c36a8d7f6441203cbcab7d54fd50145be25632297472ed89a4d9104c5d09211", func := "soffit/soffitlaw08.SpanWidens", spec := "spanWidens", apart := false, narrowed := true }
def SpanWidensUptoSaid : Prop := spanWidensUptoRow.holds Try.pinned (OpenSpec.upto spanWidensSpec)

/-- 'soffitlaw08.SpanTrue', WHERE WHAT IT READS IS OF BULK AT MOST 1048576: true; the input reads as it did. -/
def spanTrueUptoRow : OpenClaim := { program := "ytdoikgjdjdgnbaa", sum := "3c36a8d7f6441203cbcab7d54fd50145be25632297472ed89a4d9104c5d09211", func := "soffit/soffitlaw08.SpanTrue", spec := "spanTrue", apart := false, narrowed := true }
def SpanTrueUptoSaid : Prop := spanTrueUptoRow.holds Try.pinned (OpenSpec.upto spanTrueSpec)

/-- 'soffitlaw08.SpanKeeps', WHERE WHAT IT READS IS OF BULK AT MOST 1048576: true; the input reads as it did. -/
def spanKeepsUptoRow : OpenClaim := { program := "ytdoikgjdjdgnbaa", sum := "3c36a8d7f6441203cbcab7d54fd50145be25632297472ed89a4d9104c5d09211", func := "soffit/soffitlaw08.SpanKeeps", spec := "spanKeeps", apart := false, narrowed := true }
def SpanKeepsUptoSaid : Prop := spanKeepsUptoRow.holds Try.pinned (OpenSpec.upto spanKeepsSpec)

/-- 'soffitlaw08.SpanGrows', WHERE WHAT IT READS IS OF BULK AT MOST 1048576: true; the input reads as it did. -/
def spanGrowsUptoRow : OpenClaim := { program := "ytdoikgjdjdgnbaa", sum := "3c36a8d7f6441203cbcab7d54fd50145be25632297472ed89a4d9104c5d09211", func := "soffit/soffitlaw08.SpanGrows", spec := "spanGrows", apart := false, narrowed := true }
def SpanGrowsUptoSaid : Prop := spanGrowsUptoRow.holds Try.pinned (OpenSpec.upto spanGrowsSpec)

/-- 'soffitlaw08.SpanEnds', WHERE WHAT IT READS IS OF BULK AT MOST 1048576: true; the input reads as it did. -/
def spanEndsUptoRow : OpenClaim := { program := "ytdoikgjdjdgnbaa", sum := "3c36a8d7f6441203cbcab7d54fd50145be25632297472ed89a4d9104c5d09211", func := "soffit/soffitlaw08.SpanEnds", spec := "spanEnds", apart := false, narrowed := true }
def SpanEndsUptoSaid : Prop := spanEndsUptoRow.holds Try.pinned (OpenSpec.upto spanEndsSpec)

end Rows
end Go.Proofs.Ytdoikgjdjdgnbaa
