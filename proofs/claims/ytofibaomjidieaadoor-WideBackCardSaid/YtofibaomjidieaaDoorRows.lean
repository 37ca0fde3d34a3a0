/-
  NARROWER THAN 'FOR EVERY INPUT', by the rows' own cells (each row's printed sentence says how): WideAdds: laid · WideMuls: laid · WideFits: laid · WideTexts: laid · WideParses: laid · WideBack: laid · WideSums: laid · WideSpreads: laid.
  DERIVED. THE GIVEN ROWS OF THIS SEAT. 8 by the template 'for every input the law returns true; each argument reads behind the call as it read before'; 0 by the template 'total and deterministic' (their statements: YtofibaomjidieaaDoorTotals.lean).
  GIVEN WITH THE SEED: the statements are not yours to turn. If you find one false, say at which input.
  Laid BY PROGRAM, IN A SANDBOX (cutbox-rows.mjs): the forced cells as the released guide's own fill.sh prints them over the translation 9950167722001e41… (all of the seat's roots in one cut). By AI agents, Wed Nov 11 2026. No macro, syntax, notation, axiom, sorry.
-/
import Derived.Test.YtofibaomjidieaaDoorChecked
import GoSem.Claim
import GoSem.ClaimJoined
import GoSem.ClaimMapViews
import Derived.JoinedTies
import Derived.KernelRfl
namespace Go.Proofs.YtofibaomjidieaaDoor
/- THE CELL 'sum', in the pinned program and in every row, IS THE sha256 OF THE DUMP (.gsa) THAT YtofibaomjidieaaDoorProg.lean LOADS. Nothing in Lean hashes anything: it is a label: what it is worth is what the hold of that sum in a sandbox is worth. -/
noncomputable def Tryd.pinned : Pinned := { name := "ytofibaomjidieaadoor", sum := "9950167722001e41549568c97e0e9c235fe49947e6c14eef3b5da84ee22b614e", checked := Tryd.checked }
namespace Rows
def none {H : Type} : Left H := { results := [], args := [] }

/- WHAT THE LISTED PACKAGE-LEVEL VARIABLES READ AS WHEN THE CALL BEGINS. Each datum BY PROGRAM (the guide's laid-datum.mjs) off the statement by which the dump's own 'gosem.cut.vars' lays the variable. In a bare row this is a premise. The card (YtofibaomjidieaaDoorCards.lean) ties it to the program's text. -/
def laid_math_bits_deBruijn32tab {H : Type} : DataW H := .agg [.lit (.int .u8 0), .lit (.int .u8 1), .lit (.int .u8 28), .lit (.int .u8 2), .lit (.int .u8 29), .lit (.int .u8 14), .lit (.int .u8 24), .lit (.int .u8 3), .lit (.int .u8 30), .lit (.int .u8 22), .lit (.int .u8 20), .lit (.int .u8 15), .lit (.int .u8 25), .lit (.int .u8 17), .lit (.int .u8 4), .lit (.int .u8 8), .lit (.int .u8 31), .lit (.int .u8 27), .lit (.int .u8 13), .lit (.int .u8 23), .lit (.int .u8 21), .lit (.int .u8 19), .lit (.int .u8 16), .lit (.int .u8 7), .lit (.int .u8 26), .lit (.int .u8 12), .lit (.int .u8 18), .lit (.int .u8 6), .lit (.int .u8 11), .lit (.int .u8 5), .lit (.int .u8 10), .lit (.int .u8 9)]
def laid_math_bits_deBruijn64tab {H : Type} : DataW H := .agg [.lit (.int .u8 0), .lit (.int .u8 1), .lit (.int .u8 56), .lit (.int .u8 2), .lit (.int .u8 57), .lit (.int .u8 49), .lit (.int .u8 28), .lit (.int .u8 3), .lit (.int .u8 61), .lit (.int .u8 58), .lit (.int .u8 42), .lit (.int .u8 50), .lit (.int .u8 38), .lit (.int .u8 29), .lit (.int .u8 17), .lit (.int .u8 4), .lit (.int .u8 62), .lit (.int .u8 47), .lit (.int .u8 59), .lit (.int .u8 36), .lit (.int .u8 45), .lit (.int .u8 43), .lit (.int .u8 51), .lit (.int .u8 22), .lit (.int .u8 53), .lit (.int .u8 39), .lit (.int .u8 33), .lit (.int .u8 30), .lit (.int .u8 24), .lit (.int .u8 18), .lit (.int .u8 12), .lit (.int .u8 5), .lit (.int .u8 63), .lit (.int .u8 55), .lit (.int .u8 48), .lit (.int .u8 27), .lit (.int .u8 60), .lit (.int .u8 41), .lit (.int .u8 37), .lit (.int .u8 16), .lit (.int .u8 46), .lit (.int .u8 35), .lit (.int .u8 44), .lit (.int .u8 21), .lit (.int .u8 52), .lit (.int .u8 32), .lit (.int .u8 23), .lit (.int .u8 11), .lit (.int .u8 54), .lit (.int .u8 26), .lit (.int .u8 40), .lit (.int .u8 15), .lit (.int .u8 34), .lit (.int .u8 20), .lit (.int .u8 31), .lit (.int .u8 10), .lit (.int .u8 25), .lit (.int .u8 14), .lit (.int .u8 19), .lit (.int .u8 9), .lit (.int .u8 13), .lit (.int .u8 8), .lit (.int .u8 7), .lit (.int .u8 6)]
def laid_internal_strconv_uint64pow10 {H : Type} : DataW H := .agg [.lit (.int .u64 1), .lit (.int .u64 10), .lit (.int .u64 100), .lit (.int .u64 1000), .lit (.int .u64 10000), .lit (.int .u64 100000), .lit (.int .u64 1000000), .lit (.int .u64 10000000), .lit (.int .u64 100000000), .lit (.int .u64 1000000000), .lit (.int .u64 10000000000), .lit (.int .u64 100000000000), .lit (.int .u64 1000000000000), .lit (.int .u64 10000000000000), .lit (.int .u64 100000000000000), .lit (.int .u64 1000000000000000), .lit (.int .u64 10000000000000000), .lit (.int .u64 100000000000000000), .lit (.int .u64 1000000000000000000), .lit (.int .u64 10000000000000000000)]

/-- 'soffitlaw07.WideAdds': WHATEVER THE INPUT: true; the input reads as it did. -/
def wideAddsSpec : ChangeSpec := { name := "wideAdds", fn := fun _ => fun
  | [d1, d2] => { results := [.lit (.bool true)], args := [d1, d2] }
  | _ => none }
def wideAddsRow : OpenClaim := { program := "ytofibaomjidieaadoor", sum := "9950167722001e41549568c97e0e9c235fe49947e6c14eef3b5da84ee22b614e", func := "soffit/soffitlaw07.WideAdds", spec := "wideAdds", inPlace := ["math/bits.Add64"], named := ["math/bits.divideError", "math/bits.overflowError", "internal/strconv.uint64pow10", "math/bits.deBruijn32tab", "math/bits.deBruijn64tab"], apart := false, laid := [("math/bits.deBruijn32tab", laid_math_bits_deBruijn32tab), ("math/bits.deBruijn64tab", laid_math_bits_deBruijn64tab), ("internal/strconv.uint64pow10", laid_internal_strconv_uint64pow10)] }
def WideAddsSaid : Prop := wideAddsRow.holds Tryd.pinned (OpenSpec.ofChange wideAddsSpec)

/-- ITS FALSE NEIGHBOUR: 'it returns false'. Refute it at one input. -/
def wideAddsWrong : ChangeSpec := { name := "wideAdds", fn := fun _ => fun
  | [d1, d2] => { results := [.lit (.bool false)], args := [d1, d2] }
  | _ => none }
def WideAddsWrongFalsely : Prop := wideAddsRow.holds Tryd.pinned (OpenSpec.ofChange wideAddsWrong)

/-- 'soffitlaw07.WideMuls': WHATEVER THE INPUT: true; the input reads as it did. -/
def wideMulsSpec : ChangeSpec := { name := "wideMuls", fn := fun _ => fun
  | [d1, d2] => { results := [.lit (.bool true)], args := [d1, d2] }
  | _ => none }
def wideMulsRow : OpenClaim := { program := "ytofibaomjidieaadoor", sum := "9950167722001e41549568c97e0e9c235fe49947e6c14eef3b5da84ee22b614e", func := "soffit/soffitlaw07.WideMuls", spec := "wideMuls", inPlace := ["math/bits.Add64"], named := ["math/bits.divideError", "math/bits.overflowError", "internal/strconv.uint64pow10", "math/bits.deBruijn32tab", "math/bits.deBruijn64tab"], apart := false, laid := [("math/bits.deBruijn32tab", laid_math_bits_deBruijn32tab), ("math/bits.deBruijn64tab", laid_math_bits_deBruijn64tab), ("internal/strconv.uint64pow10", laid_internal_strconv_uint64pow10)] }
def WideMulsSaid : Prop := wideMulsRow.holds Tryd.pinned (OpenSpec.ofChange wideMulsSpec)

/-- ITS FALSE NEIGHBOUR: 'it returns false'. Refute it at one input. -/
def wideMulsWrong : ChangeSpec := { name := "wideMuls", fn := fun _ => fun
  | [d1, d2] => { results := [.lit (.bool false)], args := [d1, d2] }
  | _ => none }
def WideMulsWrongFalsely : Prop := wideMulsRow.holds Tryd.pinned (OpenSpec.ofChange wideMulsWrong)

/-- 'soffitlaw07.WideFits': WHATEVER THE INPUT: true; the input reads as it did. -/
def wideFitsSpec : ChangeSpec := { name := "wideFits", fn := fun _ => fun
  | [d] => { results := [.lit (.bool true)], args := [d] }
  | _ => none }
def wideFitsRow : OpenClaim := { program := "ytofibaomjidieaadoor", sum := "9950167722001e41549568c97e0e9c235fe49947e6c14eef3b5da84ee22b614e", func := "soffit/soffitlaw07.WideFits", spec := "wideFits", inPlace := ["math/bits.Add64"], named := ["math/bits.divideError", "math/bits.overflowError", "internal/strconv.uint64pow10", "math/bits.deBruijn32tab", "math/bits.deBruijn64tab"], apart := false, laid := [("math/bits.deBruijn32tab", laid_math_bits_deBruijn32tab), ("math/bits.deBruijn64tab", laid_math_bits_deBruijn64tab), ("internal/strconv.uint64pow10", laid_internal_strconv_uint64pow10)] }
def WideFitsSaid : Prop := wideFitsRow.holds Tryd.pinned (OpenSpec.ofChange wideFitsSpec)

/-- ITS FALSE NEIGHBOUR: 'it returns false'. Refute it at one input. -/
def wideFitsWrong : ChangeSpec := { name := "wideFits", fn := fun _ => fun
  | [d] => { results := [.lit (.bool false)], args := [d] }
  | _ => none }
def WideFitsWrongFalsely : Prop := wideFitsRow.holds Tryd.pinned (OpenSpec.ofChange wideFitsWrong)

/-- 'soffitlaw07.WideTexts': WHATEVER THE INPUT: true; the input reads as it did. -/
def wideTextsSpec : ChangeSpec := { name := "wideTexts", fn := fun _ => fun
  | [d] => { results := [.lit (.bool true)], args := [d] }
  | _ => none }
def wideTextsRow : OpenClaim := { program := "ytofibaomjidieaadoor", sum := "9950167722001e41549568c97e0e9c235fe49947e6c14eef3b5da84ee22b614e", func := "soffit/soffitlaw07.WideTexts", spec := "wideTexts", inPlace := ["math/bits.Add64"], named := ["math/bits.divideError", "math/bits.overflowError", "internal/strconv.uint64pow10", "math/bits.deBruijn32tab", "math/bits.deBruijn64tab"], apart := false, laid := [("math/bits.deBruijn32tab", laid_math_bits_deBruijn32tab), ("math/bits.deBruijn64tab", laid_math_bits_deBruijn64tab), ("internal/strconv.uint64pow10", laid_internal_strconv_uint64pow10)] }
def WideTextsSaid : Prop := wideTextsRow.holds Tryd.pinned (OpenSpec.ofChange wideTextsSpec)

/-- ITS FALSE NEIGHBOUR: 'it returns false'. Refute it at one input. -/
def wideTextsWrong : ChangeSpec := { name := "wideTexts", fn := fun _ => fun
  | [d] => { results := [.lit (.bool false)], args := [d] }
  | _ => none }
def WideTextsWrongFalsely : Prop := wideTextsRow.holds Tryd.pinned (OpenSpec.ofChange wideTextsWrong)

/-- 'soffitlaw07.WideParses': WHATEVER THE INPUT: true; the input reads as it did. -/
def wideParsesSpec : ChangeSpec := { name := "wideParses", fn := fun _ => fun
  | [d] => { results := [.lit (.bool true)], args := [d] }
  | _ => none }
def wideParsesRow : OpenClaim := { program := "ytofibaomjidieaadoor", sum := "9950167722001e41549568c97e0e9c235fe49947e6c14eef3b5da84ee22b614e", func := "soffit/soffitlaw07.WideParses", spec := "wideParses", inPlace := ["math/bits.Add64"], named := ["math/bits.divideError", "math/bits.overflowError", "internal/strconv.uint64pow10", "math/bits.deBruijn32tab", "math/bits.deBruijn64tab"], apart := false, laid := [("math/bits.deBruijn32tab", laid_math_bits_deBruijn32tab), ("math/bits.deBruijn64tab", laid_math_bits_deBruijn64tab), ("internal/strconv.uint64pow10", laid_internal_strconv_uint64pow10)] }
def WideParsesSaid : Prop := wideParsesRow.holds Tryd.pinned (OpenSpec.ofChange wideParsesSpec)

/-- ITS FALSE NEIGHBOUR: 'it returns false'. Refute it at one input. -/
def wideParsesWrong : ChangeSpec := { name := "wideParses", fn := fun _ => fun
  | [d] => { results := [.lit (.bool false)], args := [d] }
  | _ => none }
def WideParsesWrongFalsely : Prop := wideParsesRow.holds Tryd.pinned (OpenSpec.ofChange wideParsesWrong)

/-- 'soffitlaw07.WideBack': WHATEVER THE INPUT: true; the input reads as it did. -/
def wideBackSpec : ChangeSpec := { name := "wideBack", fn := fun _ => fun
  | [d1, d2] => { results := [.lit (.bool true)], args := [d1, d2] }
  | _ => none }
def wideBackRow : OpenClaim := { program := "ytofibaomjidieaadoor", sum := "9950167722001e41549568c97e0e9c235fe49947e6c14eef3b5da84ee22b614e", func := "soffit/soffitlaw07.WideBack", spec := "wideBack", inPlace := ["math/bits.Add64"], named := ["math/bits.divideError", "math/bits.overflowError", "internal/strconv.uint64pow10", "math/bits.deBruijn32tab", "math/bits.deBruijn64tab"], apart := false, laid := [("math/bits.deBruijn32tab", laid_math_bits_deBruijn32tab), ("math/bits.deBruijn64tab", laid_math_bits_deBruijn64tab), ("internal/strconv.uint64pow10", laid_internal_strconv_uint64pow10)] }
def WideBackSaid : Prop := wideBackRow.holds Tryd.pinned (OpenSpec.ofChange wideBackSpec)

/-- ITS FALSE NEIGHBOUR: 'it returns false'. Refute it at one input. -/
def wideBackWrong : ChangeSpec := { name := "wideBack", fn := fun _ => fun
  | [d1, d2] => { results := [.lit (.bool false)], args := [d1, d2] }
  | _ => none }
def WideBackWrongFalsely : Prop := wideBackRow.holds Tryd.pinned (OpenSpec.ofChange wideBackWrong)

/-- 'soffitlaw07.WideSums': WHATEVER THE INPUT: true; the input reads as it did. -/
def wideSumsSpec : ChangeSpec := { name := "wideSums", fn := fun _ => fun
  | [d1, d2, d3] => { results := [.lit (.bool true)], args := [d1, d2, d3] }
  | _ => none }
def wideSumsRow : OpenClaim := { program := "ytofibaomjidieaadoor", sum := "9950167722001e41549568c97e0e9c235fe49947e6c14eef3b5da84ee22b614e", func := "soffit/soffitlaw07.WideSums", spec := "wideSums", inPlace := ["math/bits.Add64"], named := ["math/bits.divideError", "math/bits.overflowError", "internal/strconv.uint64pow10", "math/bits.deBruijn32tab", "math/bits.deBruijn64tab"], apart := false, laid := [("math/bits.deBruijn32tab", laid_math_bits_deBruijn32tab), ("math/bits.deBruijn64tab", laid_math_bits_deBruijn64tab), ("internal/strconv.uint64pow10", laid_internal_strconv_uint64pow10)] }
def WideSumsSaid : Prop := wideSumsRow.holds Tryd.pinned (OpenSpec.ofChange wideSumsSpec)

/-- ITS FALSE NEIGHBOUR: 'it returns false'. Refute it at one input. -/
def wideSumsWrong : ChangeSpec := { name := "wideSums", fn := fun _ => fun
  | [d1, d2, d3] => { results := [.lit (.bool false)], args := [d1, d2, d3] }
  | _ => none }
def WideSumsWrongFalsely : Prop := wideSumsRow.holds Tryd.pinned (OpenSpec.ofChange wideSumsWrong)

/-- 'soffitlaw07.WideSpreads': WHATEVER THE INPUT: true; the input reads as it did. -/
def wideSpreadsSpec : ChangeSpec := { name := "wideSpreads", fn := fun _ => fun
  | [d1, d2, d3] => { results := [.lit (.bool true)], args := [d1, d2, d3] }
  | _ => none }
def wideSpreadsRow : OpenClaim := { program := "ytofibaomjidieaadoor", sum := "9950167722001e41549568c97e0e9c235fe49947e6c14eef3b5da84ee22b614e", func := "soffit/soffitlaw07.WideSpreads", spec := "wideSpreads", inPlace := ["math/bits.Add64"], named := ["math/bits.divideError", "math/bits.overflowError", "internal/strconv.uint64pow10", "math/bits.deBruijn32tab", "math/bits.deBruijn64tab"], apart := false, laid := [("math/bits.deBruijn32tab", laid_math_bits_deBruijn32tab), ("math/bits.deBruijn64tab", laid_math_bits_deBruijn64tab), ("internal/strconv.uint64pow10", laid_internal_strconv_uint64pow10)] }
def WideSpreadsSaid : Prop := wideSpreadsRow.holds Tryd.pinned (OpenSpec.ofChange wideSpreadsSpec)

/-- ITS FALSE NEIGHBOUR: 'it returns false'. Refute it at one input. -/
def wideSpreadsWrong : ChangeSpec := { name := "wideSpreads", fn := fun _ => fun
  | [d1, d2, d3] => { results := [.lit (.bool false)], args := [d1, d2, d3] }
  | _ => none }
def WideSpreadsWrongFalsely : Prop := wideSpreadsRow.holds Tryd.pinned (OpenSpec.ofChange wideSpreadsWrong)

/- THE SECOND FORM. 'bulk': how many values and letters a reading holds, each counted each time it is reached (what is shared counts as often as it is met; a slice's spare places count too). A statement '..UptoSaid' is the law's where the arguments, and the package variables that the reading takes, are together of bulk at most 1048576: NARROWER than '..Said'. Prove '..Said' where nothing that the law and all that it calls make is longer than what came in: it says more and counts as full. Else prove '..UptoSaid'. A law counts once. -/
mutual
def uptoBulk {H : Type} : DataW H → Nat
  | .lit (.string bytes) => bytes.length + 1
  | .lit _ => 1
  | .nil => 1
  | .ptr d => uptoBulk d + 1
  | .slice elems spare => uptoBulkAll elems + uptoBulkAll spare + 1
  | .agg parts => uptoBulkAll parts + 1
  | .iface _ d => uptoBulk d + 1
  | .map entries => uptoBulkEntries entries + 1
  | .held _ => 1
def uptoBulkAll {H : Type} : List (DataW H) → Nat
  | [] => 0
  | d :: r => uptoBulk d + uptoBulkAll r
def uptoBulkEntries {H : Type} : List (Lit × DataW H) → Nat
  | [] => 0
  | x :: r => uptoBulkEntry x + uptoBulkEntries r
def uptoBulkEntry {H : Type} : Lit × DataW H → Nat
  | (.string bytes, d) => bytes.length + uptoBulk d + 1
  | (_, d) => uptoBulk d + 1
 end
def uptoSmall : (H : Type) → List (DataW H) → Bool := fun _ ds => decide (uptoBulkAll ds ≤ 1048576)
def OpenSpec.upto (s : _root_.Go.ChangeSpec) : _root_.Go.OpenSpec := { _root_.Go.OpenSpec.ofChange s with cond := some uptoSmall }

/-- 'soffitlaw07.WideAdds', WHERE WHAT IT READS IS OF BULK AT MOST 1048576: true; the input reads as it did. -/
def wideAddsUptoRow : OpenClaim := { program := "ytofibaomjidieaadoor", sum := "9950167722001e41549568c97e0e9c235fe49947e6c14eef3b5da84ee22b614e", func := "soffit/soffitlaw07.WideAdds", spec := "wideAdds", inPlace := ["math/bits.Add64"], named := ["math/bits.divideError", "math/bits.overflowError", "internal/strconv.uint64pow10", "math/bits.deBruijn32tab", "math/bits.deBruijn64tab"], apart := false, laid := [("math/bits.deBruijn32tab", laid_math_bits_deBruijn32tab), ("math/bits.deBruijn64tab", laid_math_bits_deBruijn64tab), ("internal/strconv.uint64pow10", laid_internal_strconv_uint64pow10)], narrowed := true }
def WideAddsUptoSaid : Prop := wideAddsUptoRow.holds Tryd.pinned (OpenSpec.upto wideAddsSpec)

/-- 'soffitlaw07.WideMuls', WHERE WHAT IT READS IS OF BULK AT MOST 1048576: true; the input reads as it did. -/
def wideMulsUptoRow : OpenClaim := { program := "ytofibaomjidieaadoor", sum := "9950167722001e41549568c97e0e9c235fe49947e6c14eef3b5da84ee22b614e", func := "soffit/soffitlaw07.WideMuls", spec := "wideMuls", inPlace := ["math/bits.Add64"], named := ["math/bits.divideError", "math/bits.overflowError", "internal/strconv.uint64pow10", "math/bits.deBruijn32tab", "math/bits.deBruijn64tab"], apart := false, laid := [("math/bits.deBruijn32tab", laid_math_bits_deBruijn32tab), ("math/bits.deBruijn64tab", laid_math_bits_deBruijn64tab), ("internal/strconv.uint64pow10", laid_internal_strconv_uint64pow10)], narrowed := true }
def WideMulsUptoSaid : Prop := wideMulsUptoRow.holds Tryd.pinned (OpenSpec.upto wideMulsSpec)

/-- 'soffitlaw07.WideFits', WHERE WHAT IT READS IS OF BULK AT MOST 1048576: true; the input reads as it did. -/
def wideFitsUptoRow : OpenClaim := { program := "ytofibaomjidieaadoor", sum := "9950167722001e41549568c97e0e9c235fe49947e6c14eef3b5da84ee22b614e", func := "soffit/soffitlaw07.WideFits", spec := "wideFits", inPlace := ["math/bits.Add64"], named := ["math/bits.divideError", "math/bits.overflowError", "internal/strconv.uint64pow10", "math/bits.deBruijn32tab", "math/bits.deBruijn64tab"], apart := false, laid := [("math/bits.deBruijn32tab", laid_math_bits_deBruijn32tab), ("math/bits.deBruijn64tab", laid_math_bits_deBruijn64tab), ("internal/strconv.uint64pow10", laid_internal_strconv_uint64pow10)], narrowed := true }
def WideFitsUptoSaid : Prop := wideFitsUptoRow.holds Tryd.pinned (OpenSpec.upto wideFitsSpec)

/-- 'soffitlaw07.WideTexts', WHERE WHAT IT READS IS OF BULK AT MOST 1048576: true; the input reads as it did. -/
def wideTextsUptoRow : OpenClaim := { program := "ytofibaomjidieaadoor", sum := "9950167722001e41549568c97e0e9c235fe49947e6c14eef3b5da84ee22b614e", func := "soffit/soffitlaw07.WideTexts", spec := "wideTexts", inPlace := ["math/bits.Add64"], named := ["math/bits.divideError", "math/bits.overflowError", "internal/strconv.uint64pow10", "math/bits.deBruijn32tab", "math/bits.deBruijn64tab"], apart := false, laid := [("math/bits.deBruijn32tab", laid_math_bits_deBruijn32tab), ("math/bits.deBruijn64tab", laid_math_bits_deBruijn64tab), ("internal/strconv.uint64pow10", laid_internal_strconv_uint64pow10)], narrowed := true }
def WideTextsUptoSaid : Prop := wideTextsUptoRow.holds Tryd.pinned (OpenSpec.upto wideTextsSpec)

/-- 'soffitlaw07.WideParses', WHERE WHAT IT READS IS OF BULK AT MOST 1048576: true; the input reads as it did. -/
def wideParsesUptoRow : OpenClaim := { program := "ytofibaomjidieaadoor", sum := "9950167722001e41549568c97e0e9c235fe49947e6c14eef3b5da84ee22b614e", func := "soffit/soffitlaw07.WideParses", spec := "wideParses", inPlace := ["math/bits.Add64"], named := ["math/bits.divideError", "math/bits.overflowError", "internal/strconv.uint64pow10", "math/bits.deBruijn32tab", "math/bits.deBruijn64tab"], apart := false, laid := [("math/bits.deBruijn32tab", laid_math_bits_deBruijn32tab), ("math/bits.deBruijn64tab", laid_math_bits_deBruijn64tab), ("internal/strconv.uint64pow10", laid_internal_strconv_uint64pow10)], narrowed := true }
def WideParsesUptoSaid : Prop := wideParsesUptoRow.holds Tryd.pinned (OpenSpec.upto wideParsesSpec)

/-- 'soffitlaw07.WideBack', WHERE WHAT IT READS IS OF BULK AT MOST 1048576: true; the input reads as it did. -/
def wideBackUptoRow : OpenClaim := { program := "ytofibaomjidieaadoor", sum := "9950167722001e41549568c97e0e9c235fe49947e6c14eef3b5da84ee22b614e", func := "soffit/soffitlaw07.WideBack", spec := "wideBack", inPlace := ["math/bits.Add64"], named := ["math/bits.divideError", "math/bits.overflowError", "internal/strconv.uint64pow10", "math/bits.deBruijn32tab", "math/bits.deBruijn64tab"], apart := false, laid := [("math/bits.deBruijn32tab", laid_math_bits_deBruijn32tab), ("math/bits.deBruijn64tab", laid_math_bits_deBruijn64tab), ("internal/strconv.uint64pow10", laid_internal_strconv_uint64pow10)], narrowed := true }
def WideBackUptoSaid : Prop := wideBackUptoRow.holds Tryd.pinned (OpenSpec.upto wideBackSpec)

/-- 'soffitlaw07.WideSums', WHERE WHAT IT READS IS OF BULK AT MOST 1048576: true; the input reads as it did. -/
def wideSumsUptoRow : OpenClaim := { program := "ytofibaomjidieaadoor", sum := "9950167722001e41549568c97e0e9c235fe49947e6c14eef3b5da84ee22b614e", func := "soffit/soffitlaw07.WideSums", spec := "wideSums", inPlace := ["math/bits.Add64"], named := ["math/bits.divideError", "math/bits.overflowError", "internal/strconv.uint64pow10", "math/bits.deBruijn32tab", "math/bits.deBruijn64tab"], apart := false, laid := [("math/bits.deBruijn32tab", laid_math_bits_deBruijn32tab), ("math/bits.deBruijn64tab", laid_math_bits_deBruijn64tab), ("internal/strconv.uint64pow10", laid_internal_strconv_uint64pow10)], narrowed := true }
def WideSumsUptoSaid : Prop := wideSumsUptoRow.holds Tryd.pinned (OpenSpec.upto wideSumsSpec)

/-- 'soffitlaw07.WideSpreads', WHERE WHAT IT READS IS OF BULK AT MOST 1048576: true; the input reads as it did. -/
def wideSpreadsUptoRow : OpenClaim := { program := "ytofibaomjidieaadoor", sum := "9950167722001e41549568c97e0e9c235fe49947e6c14eef3b5da84ee22b614e", func := "soffit/soffitlaw07.WideSpreads", spec := "wideSpreads", inPlace := ["math/bits.Add64"], named := ["math/bits.divideError", "math/bits.overflowError", "internal/strconv.uint64pow10", "math/bits.deBruijn32tab", "math/bits.deBruijn64tab"], apart := false, laid := [("math/bits.deBruijn32tab", laid_math_bits_deBruijn32tab), ("math/bits.deBruijn64tab", laid_math_bits_deBruijn64tab), ("internal/strconv.uint64pow10", laid_internal_strconv_uint64pow10)], narrowed := true }
def WideSpreadsUptoSaid : Prop := wideSpreadsUptoRow.holds Tryd.pinned (OpenSpec.upto wideSpreadsSpec)

end Rows
end Go.Proofs.YtofibaomjidieaaDoor
