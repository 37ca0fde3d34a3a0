/-
  Layer 9 (code): what the program answers of a copy.
-/
import Derived.Test.YtjacfeohpofhpaaDoorCopy
import Derived.Test.YtjacfeohpofhpaaDoorMayP
import Derived.Test.YtjacfeohpofhpaaDoorMayR
import Derived.Test.YtjacfeohpofhpaaDoorSameP
import Derived.Test.YtjacfeohpofhpaaDoorSameM
namespace Go.Proofs.YtjacfeohpofhpaaDoor
open Go.RowKit
set_option linter.unusedSimpArgs false
set_option linter.unusedVariables false
theorem mem_nthF {fs : List FuncD} {f : FuncD} (h : f ∈ fs) : ∃ k, k < fs.length ∧ nthF fs k = f := by
  obtain ⟨k, hk, rfl⟩ := List.getElem_of_mem h
  exact ⟨k, hk, by simp [nthF, List.getD, hk]⟩
theorem wf_same {m c : ModD} (h : SameM m c) (wm : m.Wf) : c.Wf := by
  refine ⟨fun t ht => wm.ths t (h.ths ▸ ht), by rw [h.ths]; exact wm.tlen, fun f hf => ?_, by rw [h.len]; exact wm.flen⟩
  obtain ⟨k, hk, rfl⟩ := mem_nthF hf
  have w := wm.funcs _ (nthF_mem (by rw [← h.len]; exact hk : k < m.funcs.length))
  have hb := h.each k
  exact ⟨by rw [bare_name hb]; exact w.name, by rw [bare_params hb]; exact w.params, by rw [bare_params hb]; exact w.plen, by rw [bare_regs hb]; exact w.regs, by rw [bare_words hb]; exact w.words, by rw [bare_code hb]; exact w.code, by rw [bare_code hb]; exact w.clen⟩
theorem mayC {m c : ModD} (h : SameM m c) (w : World) (wm : m.Wf) (hc : ModOk w w.heap.size c) (ht : TabOk w) : Calls Tryd.prog 16 #[c.val] w fun e w' => e = .returned (.agg #[.int .i64 (mayD m).e, .int .i64 (mayD m).f, .int .i64 (mayD m).a]) ∧ Below w.heap.size w w' := by
  have := mayP c w (wf_same h wm) hc ht
  rw [mayD_same h] at this
  exact this
theorem sameC {m c : ModD} (h : SameM m c) (w : World) (wm : m.Wf) (hc : ModOk w w.heap.size c) (hm : ModOk w w.heap.size m) : Calls Tryd.prog 10 #[c.val, m.val] w fun e w' => e = .returned (.bool true) ∧ Below w.heap.size w w' := by
  have := sameMR c m w (wf_same h wm) wm hc hm
  rw [sameD_left h, sameD_self] at this
  exact this
end Go.Proofs.YtjacfeohpofhpaaDoor
