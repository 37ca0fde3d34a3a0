/-
  Layer 16 (bounds): BndJ.
-/
import Derived.Test.YtddobhneplfddaaDoorV14
import Derived.Test.YtddobhneplfddaaDoorV20
import Derived.Test.YtddobhneplfddaaDoorV23
import Derived.Test.YtddobhneplfddaaDoorV27
import Derived.Test.YtddobhneplfddaaDoorV28
import Derived.Test.YtddobhneplfddaaDoorV29
namespace Go.Proofs.YtddobhneplfddaaDoor
set_option maxRecDepth 100000
open Go.RowKit
set_option linter.unusedSimpArgs false
set_option linter.unusedVariables false
theorem atS_zero {r : List Sp} {s : Sp} (h : r[0]? = some s) : atS r 0 = s := atS_of (k := 0) h
theorem c_unused {m : ModD} {f : FuncD} {k : Nat} {a b c n : Int} (h : insErr m f (nthX f.code k) = 0) (hx : nthX f.code k = ⟨10, a, b, c, n⟩) : c = 0 := by
  rw [hx] at h
  unfold insErr at h
  split at h
  · split at h
    · rename_i h3
      have e3 : fldsErr (row (10 : Int).toNat) ⟨10, a, b, c, n⟩ f.regs 2 = 0 := by
        by_cases q : fldsErr (row (10 : Int).toNat) ⟨10, a, b, c, n⟩ f.regs 2 = 0
        · exact q
        · simp only [fldsErr] at h3 q; rw [if_neg q] at h3; exact absurd h3 q
      have g2 : fldErr (row (10 : Int).toNat).c c f.regs = 0 := by
        have : fldsErr (row (10 : Int).toNat) ⟨10, a, b, c, n⟩ f.regs 3 = fldErr (row (10 : Int).toNat).c c f.regs := by rw [fldsErr, if_pos e3]; rfl
        rw [← this]; exact h3
      rw [show (row (10 : Int).toNat).c = false from rfl] at g2
      by_cases h0 : c = 0
      · exact h0
      · simp [fldErr, h0] at g2
    · rename_i hq; exact absurd h hq
  · simp at h
set_option maxHeartbeats 4000000 in
theorem awayJ (m : ModD) (wm : m.Wf) (hmay : mayD m = ⟨0, 0, 0⟩) {fn frm : Nat} (hfn : fn < m.funcs.length) (hfrm : frm < (nthF m.funcs fn).code.length) (too : Int) (g cp B : Nat) (r : List Sp) (hr : (r.length : Int) = (nthF m.funcs fn).regs) (hcr : r.length ≤ cp) (hcp : cp ≤ maxLen) (hg : ∀ (k : Nat) (s : Sp), r[k]? = some s → s.Wf) (w : World) (hM : ModOk w B m) (hB : B ≤ g) (hBw : B ≤ w.heap.size) (hR : RowS w g cp r) :
    Calls Tryd.prog 29 #[m.val, (nthF m.funcs fn).val, .int .i64 frm, .int .i64 too, .slice (some ⟨g, 0, none⟩) r.length cp] w (AwayOk g cp r.length (awayD m (nthF m.funcs fn) frm too (nthX (nthF m.funcs fn).code frm) r) w) := by
  have hf := f_ok hmay hfn
  obtain ⟨hwords, hcode, _⟩ := f_ok2 hmay hfn
  have hi := i_ok (hf.ins frm hfrm)
  have hl : (nthF m.funcs fn).code.length * 40 ≤ 140737488351232 := by omega
  have hI : InsAt w w.heap.size (nthF m.funcs fn).ca (nthF m.funcs fn).code := (hM.each fn hfn).code.more hBw
  have hreg := hf.regs
  have xw : (nthX (nthF m.funcs fn).code frm).Wf := (wm.funcs _ (nthF_mem hfn)).code _ (nthX_mem hfrm)
  have hnn : In64 (nthX (nthF m.funcs fn).code frm).n := xw.2.2.2.2
  have hnf := (may_few hmay).2
  generalize hx : nthX (nthF m.funcs fn).code frm = x at hi hnn
  obtain ⟨op, a, b, c, n⟩ := x
  have hk := op_cases hi.known
  simp only at hk hnn
  clear xw
  rcases hk with rfl | rfl | rfl | rfl | rfl | rfl | rfl | rfl | rfl | rfl | rfl | rfl | rfl | rfl | rfl | rfl | rfl | rfl | rfl | rfl
  · have e : awayD m (nthF m.funcs fn) frm too ⟨0, a, b, c, n⟩ r = some r := by simp [awayD, setS]
    rw [e]
    exact away_0 m (nthF m.funcs fn) frm too a b c n hfrm hx hl g r.length cp r rfl hcr hcp w hI hR
  · obtain ⟨ka, rfl, la⟩ := nat_of (hi.a rfl)
    obtain ⟨sa, ha⟩ := get_of hr la
    have e : awayD m (nthF m.funcs fn) frm too ⟨1, ka, b, c, n⟩ r = some (r.set ka ⟨n, n⟩) := by simp [awayD, setS, atS_of ha]
    rw [e]
    exact away_1 m (nthF m.funcs fn) frm ka too b c n hfrm hx hl g r.length cp r rfl hcr hcp sa ha w hI hR
  · obtain ⟨ka, rfl, la⟩ := nat_of (hi.a rfl)
    obtain ⟨sa, ha⟩ := get_of hr la
    obtain ⟨kb, rfl, lb⟩ := nat_of (hi.b rfl)
    obtain ⟨sb, hb⟩ := get_of hr lb
    have e : awayD m (nthF m.funcs fn) frm too ⟨2, ka, kb, c, n⟩ r = some (r.set ka sb) := by simp [awayD, setS, atS_of ha, atS_of hb]
    rw [e]
    exact away_2 m (nthF m.funcs fn) frm ka kb too c n hfrm hx hl g r.length cp r rfl hcr hcp sa ha sb hb w hI hR
  · obtain ⟨ka, rfl, la⟩ := nat_of (hi.a rfl)
    obtain ⟨sa, ha⟩ := get_of hr la
    obtain ⟨kb, rfl, lb⟩ := nat_of (hi.b rfl)
    obtain ⟨sb, hb⟩ := get_of hr lb
    obtain ⟨kc, rfl, lc⟩ := nat_of (hi.c rfl)
    obtain ⟨sc, hc⟩ := get_of hr lc
    have e : awayD m (nthF m.funcs fn) frm too ⟨3, ka, kb, kc, n⟩ r = (if doOk 3 sb sc then some (r.set ka (doSp 3 sb sc)) else none) := by simp [awayD, setS, atS_of ha, atS_of hb, atS_of hc]
    rw [e]
    exact away_a 3 (by omega) m (nthF m.funcs fn) frm ka kb kc too n hfrm hx hl g r.length cp r rfl hcr hcp sa ha sb hb sc hc (hg _ _ hb) (hg _ _ hc) w hI hR
  · obtain ⟨ka, rfl, la⟩ := nat_of (hi.a rfl)
    obtain ⟨sa, ha⟩ := get_of hr la
    obtain ⟨kb, rfl, lb⟩ := nat_of (hi.b rfl)
    obtain ⟨sb, hb⟩ := get_of hr lb
    obtain ⟨kc, rfl, lc⟩ := nat_of (hi.c rfl)
    obtain ⟨sc, hc⟩ := get_of hr lc
    have e : awayD m (nthF m.funcs fn) frm too ⟨4, ka, kb, kc, n⟩ r = (if doOk 4 sb sc then some (r.set ka (doSp 4 sb sc)) else none) := by simp [awayD, setS, atS_of ha, atS_of hb, atS_of hc]
    rw [e]
    exact away_a 4 (by omega) m (nthF m.funcs fn) frm ka kb kc too n hfrm hx hl g r.length cp r rfl hcr hcp sa ha sb hb sc hc (hg _ _ hb) (hg _ _ hc) w hI hR
  · obtain ⟨ka, rfl, la⟩ := nat_of (hi.a rfl)
    obtain ⟨sa, ha⟩ := get_of hr la
    obtain ⟨kb, rfl, lb⟩ := nat_of (hi.b rfl)
    obtain ⟨sb, hb⟩ := get_of hr lb
    obtain ⟨kc, rfl, lc⟩ := nat_of (hi.c rfl)
    obtain ⟨sc, hc⟩ := get_of hr lc
    have e : awayD m (nthF m.funcs fn) frm too ⟨5, ka, kb, kc, n⟩ r = (if doOk 5 sb sc then some (r.set ka (doSp 5 sb sc)) else none) := by simp [awayD, setS, atS_of ha, atS_of hb, atS_of hc]
    rw [e]
    exact away_a 5 (by omega) m (nthF m.funcs fn) frm ka kb kc too n hfrm hx hl g r.length cp r rfl hcr hcp sa ha sb hb sc hc (hg _ _ hb) (hg _ _ hc) w hI hR
  · obtain ⟨ka, rfl, la⟩ := nat_of (hi.a rfl)
    obtain ⟨sa, ha⟩ := get_of hr la
    obtain ⟨kb, rfl, lb⟩ := nat_of (hi.b rfl)
    obtain ⟨sb, hb⟩ := get_of hr lb
    obtain ⟨kc, rfl, lc⟩ := nat_of (hi.c rfl)
    obtain ⟨sc, hc⟩ := get_of hr lc
    have e : awayD m (nthF m.funcs fn) frm too ⟨6, ka, kb, kc, n⟩ r = (if doOk 6 sb sc then some ((r.set kc (wo0 sc)).set ka (doSp 6 sb sc)) else none) := by simp [awayD, setS, atS_of ha, atS_of hb, atS_of hc]
    rw [e]
    exact away_d 6 (by omega) m (nthF m.funcs fn) frm ka kb kc too n hfrm hx hl g r.length cp r rfl hcr hcp sa ha sb hb sc hc (hg _ _ hb) (hg _ _ hc) w hI hR
  · obtain ⟨ka, rfl, la⟩ := nat_of (hi.a rfl)
    obtain ⟨sa, ha⟩ := get_of hr la
    obtain ⟨kb, rfl, lb⟩ := nat_of (hi.b rfl)
    obtain ⟨sb, hb⟩ := get_of hr lb
    obtain ⟨kc, rfl, lc⟩ := nat_of (hi.c rfl)
    obtain ⟨sc, hc⟩ := get_of hr lc
    have e : awayD m (nthF m.funcs fn) frm too ⟨7, ka, kb, kc, n⟩ r = (if doOk 7 sb sc then some ((r.set kc (wo0 sc)).set ka (doSp 7 sb sc)) else none) := by simp [awayD, setS, atS_of ha, atS_of hb, atS_of hc]
    rw [e]
    exact away_d 7 (by omega) m (nthF m.funcs fn) frm ka kb kc too n hfrm hx hl g r.length cp r rfl hcr hcp sa ha sb hb sc hc (hg _ _ hb) (hg _ _ hc) w hI hR
  · obtain ⟨ka, rfl, la⟩ := nat_of (hi.a rfl)
    obtain ⟨sa, ha⟩ := get_of hr la
    obtain ⟨kb, rfl, lb⟩ := nat_of (hi.b rfl)
    obtain ⟨sb, hb⟩ := get_of hr lb
    obtain ⟨kc, rfl, lc⟩ := nat_of (hi.c rfl)
    obtain ⟨sc, hc⟩ := get_of hr lc
    have e : awayD m (nthF m.funcs fn) frm too ⟨8, ka, kb, kc, n⟩ r = (if doOk 8 sb sc then some (r.set ka (doSp 8 sb sc)) else none) := by simp [awayD, setS, atS_of ha, atS_of hb, atS_of hc]
    rw [e]
    exact away_a 8 (by omega) m (nthF m.funcs fn) frm ka kb kc too n hfrm hx hl g r.length cp r rfl hcr hcp sa ha sb hb sc hc (hg _ _ hb) (hg _ _ hc) w hI hR
  · obtain ⟨ka, rfl, la⟩ := nat_of (hi.a rfl)
    obtain ⟨sa, ha⟩ := get_of hr la
    obtain ⟨kb, rfl, lb⟩ := nat_of (hi.b rfl)
    obtain ⟨sb, hb⟩ := get_of hr lb
    obtain ⟨kc, rfl, lc⟩ := nat_of (hi.c rfl)
    obtain ⟨sc, hc⟩ := get_of hr lc
    have e : awayD m (nthF m.funcs fn) frm too ⟨9, ka, kb, kc, n⟩ r = (if doOk 9 sb sc then some (r.set ka (doSp 9 sb sc)) else none) := by simp [awayD, setS, atS_of ha, atS_of hb, atS_of hc]
    rw [e]
    exact away_a 9 (by omega) m (nthF m.funcs fn) frm ka kb kc too n hfrm hx hl g r.length cp r rfl hcr hcp sa ha sb hb sc hc (hg _ _ hb) (hg _ _ hc) w hI hR
  · obtain ⟨ka, rfl, la⟩ := nat_of (hi.a rfl)
    obtain ⟨sa, ha⟩ := get_of hr la
    obtain ⟨kb, rfl, lb⟩ := nat_of (hi.b rfl)
    obtain ⟨sb, hb⟩ := get_of hr lb
    obtain rfl : c = ((0 : Nat) : Int) := c_unused (hf.ins frm hfrm) hx
    obtain ⟨sc, hc⟩ := get_of (k := 0) hr (by omega)
    have e : awayD m (nthF m.funcs fn) frm too ⟨10, ka, kb, ((0 : Nat) : Int), n⟩ r = (if doOk 10 sb sc then some (r.set ka (doSp 10 sb sc)) else none) := by simp [awayD, setS, atS_of hb, atS_of hc, atS_zero hc]
    rw [e]
    exact away_a 10 (by omega) m (nthF m.funcs fn) frm ka kb 0 too n hfrm hx hl g r.length cp r rfl hcr hcp sa ha sb hb sc hc (hg _ _ hb) (hg _ _ hc) w hI hR
  · obtain ⟨ka, rfl, la⟩ := nat_of (hi.a rfl)
    obtain ⟨sa, ha⟩ := get_of hr la
    obtain ⟨kb, rfl, lb⟩ := nat_of (hi.b rfl)
    obtain ⟨sb, hb⟩ := get_of hr lb
    have e : awayD m (nthF m.funcs fn) frm too ⟨11, ka, kb, c, n⟩ r = (if wordsOk n (nthF m.funcs fn).words = true ∧ sb.meetOk (wordsS n (nthF m.funcs fn).words) = true then some ((r.set kb (sb.meet (wordsS n (nthF m.funcs fn).words))).set ka Sp.all) else none) := by simp [awayD, setS, atS_of ha, atS_of hb]
    rw [e]
    cases hwk : wordsOk n (nthF m.funcs fn).words
    · cases hto : (too == n)
      · exact away_11_fff m (nthF m.funcs fn) frm ka kb too c n hfrm hx hl g r.length cp r rfl hcr hcp sa ha sb hb hnn hwords hwk hto w hI hR
      · exact away_11_fft m (nthF m.funcs fn) frm ka kb too c n hfrm hx hl g r.length cp r rfl hcr hcp sa ha sb hb hnn hwords hwk hto w hI hR
    · cases hmk : sb.meetOk (wordsS n (nthF m.funcs fn).words) <;> cases hto : (too == n)
      · exact away_11_tff m (nthF m.funcs fn) frm ka kb too c n hfrm hx hl g r.length cp r rfl hcr hcp sa ha sb hb hnn hwords hwk hmk hto w hI hR
      · exact away_11_tft m (nthF m.funcs fn) frm ka kb too c n hfrm hx hl g r.length cp r rfl hcr hcp sa ha sb hb hnn hwords hwk hmk hto w hI hR
      · exact away_11_ttf m (nthF m.funcs fn) frm ka kb too c n hfrm hx hl g r.length cp r rfl hcr hcp sa ha sb hb hnn hwords hwk hmk hto w hI hR
      · exact away_11_ttt m (nthF m.funcs fn) frm ka kb too c n hfrm hx hl g r.length cp r rfl hcr hcp sa ha sb hb hnn hwords hwk hmk hto w hI hR
  · obtain ⟨kb, rfl, lb⟩ := nat_of (hi.b rfl)
    obtain ⟨sb, hb⟩ := get_of hr lb
    have e : awayD m (nthF m.funcs fn) frm too ⟨12, a, kb, c, n⟩ r = (if wordsOk n (nthF m.funcs fn).words = true ∧ sb.meetOk (wordsS n (nthF m.funcs fn).words) = true then some (r.set kb (sb.meet (wordsS n (nthF m.funcs fn).words))) else none) := by simp [awayD, setS, atS_of hb]
    rw [e]
    cases hwk : wordsOk n (nthF m.funcs fn).words
    · cases hto : (too == n)
      · exact away_12_fff m (nthF m.funcs fn) frm kb too a c n hfrm hx hl g r.length cp r rfl hcr hcp sb hb hnn hwords hwk hto w hI hR
      · exact away_12_fft m (nthF m.funcs fn) frm kb too a c n hfrm hx hl g r.length cp r rfl hcr hcp sb hb hnn hwords hwk hto w hI hR
    · cases hmk : sb.meetOk (wordsS n (nthF m.funcs fn).words) <;> cases hto : (too == n)
      · exact away_12_tff m (nthF m.funcs fn) frm kb too a c n hfrm hx hl g r.length cp r rfl hcr hcp sb hb hnn hwords hwk hmk hto w hI hR
      · exact away_12_tft m (nthF m.funcs fn) frm kb too a c n hfrm hx hl g r.length cp r rfl hcr hcp sb hb hnn hwords hwk hmk hto w hI hR
      · exact away_12_ttf m (nthF m.funcs fn) frm kb too a c n hfrm hx hl g r.length cp r rfl hcr hcp sb hb hnn hwords hwk hmk hto w hI hR
      · exact away_12_ttt m (nthF m.funcs fn) frm kb too a c n hfrm hx hl g r.length cp r rfl hcr hcp sb hb hnn hwords hwk hmk hto w hI hR
  · obtain ⟨n1, n2⟩ := n_checked hi
    obtain ⟨ka, rfl, la⟩ := nat_of (hi.a rfl)
    obtain ⟨sa, ha⟩ := get_of hr la
    have ew : wrap64 (n - 1) = n - 1 := IntWalk.wrap64_in _ ⟨by omega, by omega⟩
    have e : awayD m (nthF m.funcs fn) frm too ⟨13, ka, b, c, n⟩ r = (if sa.meetOk ⟨0, n - 1⟩ = true then some (r.set ka (sa.meet ⟨0, n - 1⟩)) else none) := by simp [awayD, setS, ew, atS_of ha]
    rw [e]
    cases hmk : sa.meetOk ⟨0, n - 1⟩ <;> cases hto : (too == n)
    · exact away_13_ff m (nthF m.funcs fn) frm ka too b c n hfrm hx hl g r.length cp r rfl hcr hcp sa ha n1 n2 hmk hto w hI hR
    · exact away_13_ft m (nthF m.funcs fn) frm ka too b c n hfrm hx hl g r.length cp r rfl hcr hcp sa ha n1 n2 hmk hto w hI hR
    · exact away_13_tf m (nthF m.funcs fn) frm ka too b c n hfrm hx hl g r.length cp r rfl hcr hcp sa ha n1 n2 hmk hto w hI hR
    · exact away_13_tt m (nthF m.funcs fn) frm ka too b c n hfrm hx hl g r.length cp r rfl hcr hcp sa ha n1 n2 hmk hto w hI hR
  · have e : awayD m (nthF m.funcs fn) frm too ⟨14, a, b, c, n⟩ r = some r := by simp [awayD, setS]
    rw [e]
    exact away_14 m (nthF m.funcs fn) frm too a b c n hfrm hx hl g r.length cp r rfl hcr hcp w hI hR
  · obtain ⟨ka, rfl, la⟩ := nat_of (hi.a rfl)
    obtain ⟨sa, ha⟩ := get_of hr la
    have hd : ∀ q : Bool, (too == n) = q → decide (too = n) = q := fun q h => by subst h; rfl
    cases hone : (n == (frm : Int) + 1)
    · have hone2 : (n != (frm : Int) + 1) = true := by rw [bne, hone]; rfl
      have hn1 : ¬ n = (frm : Int) + 1 := by simpa using hone
      cases hto : (too == n)
      · have e : awayD m (nthF m.funcs fn) frm too ⟨15, ka, b, c, n⟩ r = (if sa.meetOk ⟨0, 0⟩ = true then some (r.set ka (sa.meet ⟨0, 0⟩)) else none) := by
          simp [awayD, setS, atS_of ha, hn1, hd _ hto]
        rw [e]
        cases hmk : sa.meetOk ⟨0, 0⟩
        · exact away_15_zero_f m (nthF m.funcs fn) frm ka too b c n hfrm hx hl g r.length cp r rfl hcr hcp sa ha hone hone2 hmk hto w hI hR
        · exact away_15_zero_t m (nthF m.funcs fn) frm ka too b c n hfrm hx hl g r.length cp r rfl hcr hcp sa ha hone hone2 hmk hto w hI hR
      · have e : awayD m (nthF m.funcs fn) frm too ⟨15, ka, b, c, n⟩ r = (if wo0Ok sa = true then some (r.set ka (wo0 sa)) else none) := by
          simp [awayD, setS, atS_of ha, hn1, hd _ hto]
        rw [e]
        cases hmk : wo0Ok sa
        · exact away_15_wo_f m (nthF m.funcs fn) frm ka too b c n hfrm hx hl g r.length cp r rfl hcr hcp sa ha hone hone2 hmk hto w hI hR
        · exact away_15_wo_t m (nthF m.funcs fn) frm ka too b c n hfrm hx hl g r.length cp r rfl hcr hcp sa ha hone hone2 hmk hto w hI hR
    · have hone2 : (n != (frm : Int) + 1) = false := by rw [bne, hone]; rfl
      have hn1 : n = (frm : Int) + 1 := by simpa using hone
      have e : awayD m (nthF m.funcs fn) frm too ⟨15, ka, b, c, n⟩ r = some r := by simp [awayD, hn1]
      rw [e]
      cases hto : (too == n)
      · exact away_15_one_f m (nthF m.funcs fn) frm too ka b c n hfrm hx hl g r.length cp r rfl hcr hcp hone hone2 hto w hI hR
      · exact away_15_one_t m (nthF m.funcs fn) frm too ka b c n hfrm hx hl g r.length cp r rfl hcr hcp hone hone2 hto w hI hR
  · obtain ⟨ka, rfl, la⟩ := nat_of (hi.a rfl)
    obtain ⟨sa, ha⟩ := get_of hr la
    have hd : ∀ q : Bool, (too == n) = q → decide (too = n) = q := fun q h => by subst h; rfl
    cases hone : (n == (frm : Int) + 1)
    · have hone2 : (n != (frm : Int) + 1) = true := by rw [bne, hone]; rfl
      have hn1 : ¬ n = (frm : Int) + 1 := by simpa using hone
      cases hto : (too == n)
      · have e : awayD m (nthF m.funcs fn) frm too ⟨16, ka, b, c, n⟩ r = (if wo0Ok sa = true then some (r.set ka (wo0 sa)) else none) := by
          simp [awayD, setS, atS_of ha, hn1, hd _ hto]
        rw [e]
        cases hmk : wo0Ok sa
        · exact away_16_wo_f m (nthF m.funcs fn) frm ka too b c n hfrm hx hl g r.length cp r rfl hcr hcp sa ha hone hone2 hmk hto w hI hR
        · exact away_16_wo_t m (nthF m.funcs fn) frm ka too b c n hfrm hx hl g r.length cp r rfl hcr hcp sa ha hone hone2 hmk hto w hI hR
      · have e : awayD m (nthF m.funcs fn) frm too ⟨16, ka, b, c, n⟩ r = (if sa.meetOk ⟨0, 0⟩ = true then some (r.set ka (sa.meet ⟨0, 0⟩)) else none) := by
          simp [awayD, setS, atS_of ha, hn1, hd _ hto]
        rw [e]
        cases hmk : sa.meetOk ⟨0, 0⟩
        · exact away_16_zero_f m (nthF m.funcs fn) frm ka too b c n hfrm hx hl g r.length cp r rfl hcr hcp sa ha hone hone2 hmk hto w hI hR
        · exact away_16_zero_t m (nthF m.funcs fn) frm ka too b c n hfrm hx hl g r.length cp r rfl hcr hcp sa ha hone hone2 hmk hto w hI hR
    · have hone2 : (n != (frm : Int) + 1) = false := by rw [bne, hone]; rfl
      have hn1 : n = (frm : Int) + 1 := by simpa using hone
      have e : awayD m (nthF m.funcs fn) frm too ⟨16, ka, b, c, n⟩ r = some r := by simp [awayD, hn1]
      rw [e]
      cases hto : (too == n)
      · exact away_16_one_f m (nthF m.funcs fn) frm too ka b c n hfrm hx hl g r.length cp r rfl hcr hcp hone hone2 hto w hI hR
      · exact away_16_one_t m (nthF m.funcs fn) frm too ka b c n hfrm hx hl g r.length cp r rfl hcr hcp hone hone2 hto w hI hR
  · obtain ⟨ka, rfl, la⟩ := nat_of (hi.a rfl)
    obtain ⟨sa, ha⟩ := get_of hr la
    obtain ⟨kb, rfl, lb⟩ := nat_of (hi.b rfl)
    obtain ⟨sb, hb⟩ := get_of hr lb
    cases hone : (n == (frm : Int) + 1)
    · have hone2 : (n != (frm : Int) + 1) = true := by rw [bne, hone]; rfl
      have hn1 : ¬ n = (frm : Int) + 1 := by simpa using hone
      cases hab : ((ka : Int) == (kb : Int))
      · have hn2 : ¬ (ka : Int) = (kb : Int) := by simpa using hab
        have hn4 : ¬ ka = kb := by omega
        cases hto : (too == n)
        · have hn3 : ¬ too = n := by simpa using hto
          have e : awayD m (nthF m.funcs fn) frm too ⟨17, ka, kb, c, n⟩ r = (if sa.belowOk sb = true then some (r.set ka (sa.belowA sb)) else none) := by simp [awayD, setS, atS_of ha, atS_of hb, hn1, hn2, hn3, hn4]
          rw [e]
          cases hmk : sa.belowOk sb
          · exact away_17_below_f m (nthF m.funcs fn) frm ka kb too c n hfrm hx hl g r.length cp r rfl hcr hcp sa ha sb hb hone hone2 hab hto (hg _ _ ha) (hg _ _ hb) hmk w hI hR
          · exact away_17_below_t m (nthF m.funcs fn) frm ka kb too c n hfrm hx hl g r.length cp r rfl hcr hcp sa ha sb hb hone hone2 hab hto (hg _ _ ha) (hg _ _ hb) hmk w hI hR
        · have hn3 : too = n := by simpa using hto
          have e : awayD m (nthF m.funcs fn) frm too ⟨17, ka, kb, c, n⟩ r = (if sb.lo ≤ sa.hi then some (r.set ka ⟨Sp.mx sa.lo sb.lo, sa.hi⟩) else none) := by simp [awayD, setS, atS_of ha, atS_of hb, hn1, hn2, hn3, hn4]
          rw [e]
          by_cases hge : sb.lo ≤ sa.hi
          · rw [if_pos hge]
            exact away_17_far_t m (nthF m.funcs fn) frm ka kb too c n hfrm hx hl g r.length cp r rfl hcr hcp sa ha sb hb hone hone2 hab hto (by simpa using hge) w hI hR
          · rw [if_neg hge]
            exact away_17_far_f m (nthF m.funcs fn) frm ka kb too c n hfrm hx hl g r.length cp r rfl hcr hcp sa ha sb hb hone hone2 hab hto (by simpa using hge) w hI hR
      · have hn2 : (ka : Int) = (kb : Int) := by simpa using hab
        cases hto : (too == n)
        · have hn3 : ¬ too = n := by simpa using hto
          have e : awayD m (nthF m.funcs fn) frm too ⟨17, ka, kb, c, n⟩ r = none := by simp [awayD, hn1, hn2, hn3]
          rw [e]
          exact away_17_same_f m (nthF m.funcs fn) frm ka kb too c n hfrm hx hl g r.length cp r rfl hcr hcp sa ha sb hb hone hone2 hab hto w hI hR
        · have hn3 : too = n := by simpa using hto
          have e : awayD m (nthF m.funcs fn) frm too ⟨17, ka, kb, c, n⟩ r = some r := by simp [awayD, hn1, hn2, hn3]
          rw [e]
          exact away_17_same_t m (nthF m.funcs fn) frm ka kb too c n hfrm hx hl g r.length cp r rfl hcr hcp sa ha sb hb hone hone2 hab hto w hI hR
    · have hone2 : (n != (frm : Int) + 1) = false := by rw [bne, hone]; rfl
      have hn1 : n = (frm : Int) + 1 := by simpa using hone
      have e : awayD m (nthF m.funcs fn) frm too ⟨17, ka, kb, c, n⟩ r = some r := by simp [awayD, hn1]
      rw [e]
      cases hab : ((ka : Int) == (kb : Int)) <;> cases hto : (too == n)
      · exact away_17_one_ff m (nthF m.funcs fn) frm ka kb too c n hfrm hx hl g r.length cp r rfl hcr hcp sa ha sb hb hone hone2 hab hto w hI hR
      · exact away_17_one_tf m (nthF m.funcs fn) frm ka kb too c n hfrm hx hl g r.length cp r rfl hcr hcp sa ha sb hb hone hone2 hab hto w hI hR
      · exact away_17_one_ft m (nthF m.funcs fn) frm ka kb too c n hfrm hx hl g r.length cp r rfl hcr hcp sa ha sb hb hone hone2 hab hto w hI hR
      · exact away_17_one_tt m (nthF m.funcs fn) frm ka kb too c n hfrm hx hl g r.length cp r rfl hcr hcp sa ha sb hb hone hone2 hab hto w hI hR
  · obtain ⟨ka, rfl, la⟩ := nat_of (hi.a rfl)
    obtain ⟨sa, ha⟩ := get_of hr la
    have e : awayD m (nthF m.funcs fn) frm too ⟨18, ka, b, c, n⟩ r = some (r.set ka (doSp 3 sa ⟨1, 1⟩)) := by simp [awayD, setS, atS_of ha]
    rw [e]
    exact away_18 m (nthF m.funcs fn) frm ka too b c n hfrm hx hl g r.length cp r rfl hcr hcp sa ha (hg _ _ ha) w hI hR
  · obtain ⟨hn1, hn2⟩ := n_called hmay hi hreg.2.1
    obtain ⟨kn, rfl, ln⟩ := nat_of hn1
    obtain ⟨ka, rfl, la⟩ := nat_of (hi.a rfl)
    obtain ⟨kb, rfl, lb⟩ := nat_of (hi.b rfl)
    rw [Int.toNat_natCast] at hn2
    have e : awayD m (nthF m.funcs fn) frm too ⟨19, ka, kb, c, kn⟩ r = (callD r kb (nthF m.funcs kn).params).map fun q => q.set ka Sp.all := by simp [awayD, setS]
    rw [e]
    have hla : ka < r.length := by omega
    cases hto : (too == (kn : Int)) <;> cases hon : ((kn : Int) != (frm : Int) + 1)
    · exact away_19_false m (nthF m.funcs fn) frm ka kb kn too c hfrm hx hl g r.length cp B r rfl hcr hcp hla (by omega) hnf (by omega) w hM hB false hto hon hI hR
    · exact away_19_false m (nthF m.funcs fn) frm ka kb kn too c hfrm hx hl g r.length cp B r rfl hcr hcp hla (by omega) hnf (by omega) w hM hB true hto hon hI hR
    · exact away_19_true m (nthF m.funcs fn) frm ka kb kn too c hfrm hx hl g r.length cp B r rfl hcr hcp hla (by omega) hnf (by omega) w hM hB false hto hon hI hR
    · exact away_19_true m (nthF m.funcs fn) frm ka kb kn too c hfrm hx hl g r.length cp B r rfl hcr hcp hla (by omega) hnf (by omega) w hM hB true hto hon hI hR
end Go.Proofs.YtddobhneplfddaaDoor
