/-
  Layer 9 (code), the plain law of CodeLies: of a module that may be, all registers and targets are there, no end is fallen over, and no two names are the same. No program in sight.
-/
import Derived.Test.YtpmffclepnkedaaDoorPlainY
import Derived.Test.YtpmffclepnkedaaDoorReadsR
import Derived.IntWalk
namespace Go.Proofs.YtpmffclepnkedaaDoor
open Go.RowKit
set_option linter.unusedSimpArgs false
set_option linter.unusedVariables false
theorem badFrom_cases (p : Nat → Bool) (n : Nat) : ∀ k, (badFrom p k n = -1 ∧ ∀ j, k ≤ j → j < k + n → p j = true) ∨ ∃ j : Nat, k ≤ j ∧ j < k + n ∧ badFrom p k n = j ∧ p j = false := by
  induction n with
  | zero => intro k; exact .inl ⟨rfl, fun j h1 h2 => by omega⟩
  | succ n ih =>
    intro k
    cases hk : p k
    · exact .inr ⟨k, Nat.le_refl _, by omega, by simp [badFrom, hk], hk⟩
    · rcases ih (k + 1) with ⟨h1, h2⟩ | ⟨j, h1, h2, h3, h4⟩
      · refine .inl ⟨by simp [badFrom, hk, h1], fun j h3 h4 => ?_⟩
        rcases Nat.eq_or_lt_of_le h3 with rfl | h5
        · exact hk
        · exact h2 j (by omega) (by omega)
      · exact .inr ⟨j, by omega, by omega, by simp [badFrom, hk, h3], h4⟩
theorem findFrom_cases (fs : List FuncD) (s : ByteArray) (n : Nat) : ∀ k, (findFrom fs s k n = -1 ∧ ∀ j, k ≤ j → j < k + n → eqN (nthF fs j).name s = false) ∨ ∃ j : Nat, k ≤ j ∧ j < k + n ∧ findFrom fs s k n = j ∧ eqN (nthF fs j).name s = true ∧ ∀ i, k ≤ i → i < j → eqN (nthF fs i).name s = false := by
  induction n with
  | zero => intro k; exact .inl ⟨rfl, fun j h1 h2 => by omega⟩
  | succ n ih =>
    intro k
    cases hk : eqN (nthF fs k).name s
    · rcases ih (k + 1) with ⟨h1, h2⟩ | ⟨j, h1, h2, h3, h4, h5⟩
      · refine .inl ⟨by simp only [findFrom, hk]; simpa using h1, fun j h3 h4 => ?_⟩
        rcases Nat.eq_or_lt_of_le h3 with rfl | h5
        · exact hk
        · exact h2 j (by omega) (by omega)
      · refine .inr ⟨j, by omega, by omega, by simp only [findFrom, hk]; simpa using h3, h4, fun i h6 h7 => ?_⟩
        rcases Nat.eq_or_lt_of_le h6 with rfl | h8
        · exact hk
        · exact h5 i (by omega) h7
    · exact .inr ⟨k, Nat.le_refl _, by omega, by simp only [findFrom, hk, if_true], hk, fun i h1 h2 => by omega⟩
theorem may_all {m : ModD} (h : mayD m = ⟨0, 0, 0⟩) : ∀ i, i < m.funcs.length → wholeE m i = 0 ∧ codeE m i = 0 := by
  unfold mayD at h
  split at h
  · simp at h
  split at h
  · simp at h
  split at h
  · simp at h
  rcases badFrom_cases (okWhole m) m.funcs.length 0 with ⟨a1, a2⟩ | ⟨j, b1, b2, b3, b4⟩
  · rw [if_neg (by show ¬ wholeD m ≠ -1; unfold wholeD; rw [a1]; simp)] at h
    rcases badFrom_cases (okCode m) m.funcs.length 0 with ⟨c1, c2⟩ | ⟨j, b1, b2, b3, b4⟩
    · intro i hi
      have h1 := a2 i (Nat.zero_le _) (by omega)
      have h2 := c2 i (Nat.zero_le _) (by omega)
      exact ⟨by simpa [okWhole] using h1, by simpa [okCode] using h2⟩
    · have hd : codeD m = j := b3
      rw [if_pos (by rw [hd]; omega), hd] at h
      simp only [FaultD.mk.injEq, Int.toNat_natCast] at h
      simp [okCode, h.1] at b4
  · have hd : wholeD m = j := b3
    rw [if_pos (by rw [hd]; omega), hd] at h
    simp only [FaultD.mk.injEq, Int.toNat_natCast] at h
    simp [okWhole, h.1] at b4
/-- What a function of a module that may be is like. -/
structure FOk (m : ModD) (i : Nat) : Prop where
  find : findD m.funcs (nthF m.funcs i).name = i
  few : (nthF m.funcs i).params.length ≤ 8
  regs : 1 ≤ (nthF m.funcs i).regs ∧ (nthF m.funcs i).regs ≤ 64 ∧ ((nthF m.funcs i).params.length : Int) ≤ (nthF m.funcs i).regs
  ins : ∀ k, k < (nthF m.funcs i).code.length → insErr m (nthF m.funcs i) (nthX (nthF m.funcs i).code k) = 0
  last : endsOk (lastOp m i) = true
theorem f_ok {m : ModD} (h : mayD m = ⟨0, 0, 0⟩) {i : Nat} (hi : i < m.funcs.length) : FOk m i := by
  obtain ⟨hw, hc⟩ := may_all h i hi
  unfold wholeE at hw
  split at hw
  · simp at hw
  split at hw
  · simp at hw
  rename_i hnf
  split at hw
  · simp at hw
  rename_i hfew
  split at hw
  · simp at hw
  unfold restErr at hw
  split at hw
  · simp at hw
  rename_i hreg
  unfold codeE at hc
  refine ⟨?_, by omega, by omega, ?_, ?_⟩
  · rcases findFrom_cases m.funcs (nthF m.funcs i).name m.funcs.length 0 with ⟨a1, a2⟩ | ⟨j, b1, b2, b3, b4, b5⟩
    · have := a2 i (Nat.zero_le _) (by omega)
      simp [eqN] at this
    · have hd : findD m.funcs (nthF m.funcs i).name = j := b3
      rw [hd] at hnf ⊢
      rcases Nat.lt_or_ge i j with q | q
      · have := b5 i (Nat.zero_le _) q
        simp [eqN] at this
      · omega
  · rcases badFrom_cases (okIns m i) (nthF m.funcs i).code.length 0 with ⟨a1, a2⟩ | ⟨j, b1, b2, b3, b4⟩
    · intro k hk
      have := a2 k (Nat.zero_le _) (by omega)
      simpa [okIns] using this
    · have hd : firstIns m i = j := b3
      rw [if_pos (by rw [hd]; omega), hd, Int.toNat_natCast] at hc
      simp [okIns, hc] at b4
  · rcases badFrom_cases (okIns m i) (nthF m.funcs i).code.length 0 with ⟨a1, a2⟩ | ⟨j, b1, b2, b3, b4⟩
    · have hd : firstIns m i = -1 := a1
      rw [if_neg (by rw [hd]; simp)] at hc
      split at hc
      · assumption
      · simp at hc
    · have hd : firstIns m i = j := b3
      rw [if_pos (by rw [hd]; omega), hd, Int.toNat_natCast] at hc
      simp [okIns, hc] at b4
/-- What an instruction of a module that may be is like. -/
structure IOk (m : ModD) (f : FuncD) (x : InsD) : Prop where
  known : known x.op = true
  a : (row x.op.toNat).a = true → 0 ≤ x.a ∧ x.a < f.regs
  b : (row x.op.toNat).b = true → 0 ≤ x.b ∧ x.b < f.regs
  c : (row x.op.toNat).c = true → 0 ≤ x.c ∧ x.c < f.regs
  n : nErr (row x.op.toNat) m f x = 0
theorem fld_ok {has : Bool} {r regs : Int} (h : fldErr has r regs = 0) : has = true → 0 ≤ r ∧ r < regs := fun hh => by
  unfold fldErr at h
  rw [if_pos hh] at h
  split at h
  · simp at h
  · omega
theorem i_ok {m : ModD} {f : FuncD} {x : InsD} (h : insErr m f x = 0) : IOk m f x := by
  unfold insErr at h
  split at h
  · rename_i hk
    split at h
    · rename_i h3
      have e3 : fldsErr (row x.op.toNat) x f.regs 2 = 0 := by
        by_cases q : fldsErr (row x.op.toNat) x f.regs 2 = 0
        · exact q
        · simp only [fldsErr] at h3 q; rw [if_neg q] at h3; exact absurd h3 q
      have e2 : fldsErr (row x.op.toNat) x f.regs 1 = 0 := by
        by_cases q : fldsErr (row x.op.toNat) x f.regs 1 = 0
        · exact q
        · simp only [fldsErr] at e3 q; rw [if_neg q] at e3; exact absurd e3 q
      have g2 : fldErr (row x.op.toNat).c x.c f.regs = 0 := by
        have : fldsErr (row x.op.toNat) x f.regs 3 = fldErr (row x.op.toNat).c x.c f.regs := by rw [fldsErr, if_pos e3]; rfl
        rw [← this]; exact h3
      have g1 : fldErr (row x.op.toNat).b x.b f.regs = 0 := by
        have : fldsErr (row x.op.toNat) x f.regs 2 = fldErr (row x.op.toNat).b x.b f.regs := by rw [fldsErr, if_pos e2]; rfl
        rw [← this]; exact e3
      have g0 : fldErr (row x.op.toNat).a x.a f.regs = 0 := e2
      exact ⟨hk, fld_ok g0, fld_ok g1, fld_ok g2, h⟩
    · rename_i h3; exact absurd h h3
  · simp at h
theorem row_kinds : ∀ k, k < 20 → ((row k).wr = true → (row k).a = true) ∧ ((row k).n = 4 ↔ k = 19) ∧ (14 ≤ k → k ≤ 18 → (row k).n = 2) := by decide
/-- So many parameters has the function that is called. -/
def calledN (m : ModD) (x : InsD) : Int := if x.op = 19 then ((nthF m.funcs x.n.toNat).params.length : Int) else 0
structure LOk (m : ModD) (f : FuncD) (x : InsD) (lst : Prop) : Prop where
  call : x.op = 19 → 0 ≤ x.n ∧ x.n < m.funcs.length
  reads : ∀ r, r ∈ readsD x (calledN m x) → 0 ≤ r ∧ r < f.regs
  known : known x.op = true
  writes : writes x.op x.a = -1 ∨ (0 ≤ writes x.op x.a ∧ writes x.op x.a < f.regs)
  jumps : 14 ≤ x.op → x.op ≤ 18 → 0 ≤ x.n ∧ x.n < f.code.length
  ends : lst → x.op = 0 ∨ x.op = 14 ∨ x.op = 18
theorem l_ok {m : ModD} (h : mayD m = ⟨0, 0, 0⟩) {i k : Nat} (hi : i < m.funcs.length) (hk : k < (nthF m.funcs i).code.length) :
    LOk m (nthF m.funcs i) (nthX (nthF m.funcs i).code k) (k + 1 = (nthF m.funcs i).code.length) := by
  have hf := f_ok h hi
  have hx := i_ok (hf.ins k hk)
  obtain ⟨k0, k1⟩ : 0 ≤ (nthX (nthF m.funcs i).code k).op ∧ (nthX (nthF m.funcs i).code k).op < 20 := by simpa [known] using hx.known
  obtain ⟨r1, r2, r3⟩ := row_kinds (nthX (nthF m.funcs i).code k).op.toNat (by omega)
  have hcall : (nthX (nthF m.funcs i).code k).op = 19 → 0 ≤ (nthX (nthF m.funcs i).code k).n ∧ (nthX (nthF m.funcs i).code k).n < m.funcs.length ∧ wrap64 ((nthX (nthF m.funcs i).code k).b + (nthF m.funcs (nthX (nthF m.funcs i).code k).n.toNat).params.length) ≤ (nthF m.funcs i).regs := fun h19 => by
    have h4 : (row (nthX (nthF m.funcs i).code k).op.toNat).n = 4 := r2.2 (by omega)
    have hn := hx.n
    unfold nErr at hn
    rw [h4] at hn
    simp at hn
    omega
  refine ⟨fun h19 => ⟨(hcall h19).1, (hcall h19).2.1⟩, fun r hr => ?_, hx.known, ?_, fun h1 h2 => ?_, fun hl => ?_⟩
  · unfold readsD calledN at hr
    by_cases h19 : (nthX (nthF m.funcs i).code k).op = 19
    · rw [if_pos h19, if_pos h19] at hr
      obtain ⟨j, hj, rfl⟩ := List.mem_map.1 hr
      have hj := List.mem_range.1 hj
      obtain ⟨n0, n1, n2⟩ := hcall h19
      have hb := hx.b (by rw [h19]; rfl)
      have hfew := (f_ok h (i := (nthX (nthF m.funcs i).code k).n.toNat) (by omega)).few
      have hreg := hf.regs
      have hcl : callN (nthF m.funcs (nthX (nthF m.funcs i).code k).n.toNat).params.length ≤ (nthF m.funcs (nthX (nthF m.funcs i).code k).n.toNat).params.length := by
        unfold callN; split <;> (try split) <;> omega
      have e1 : wrap64 ((nthX (nthF m.funcs i).code k).b + (nthF m.funcs (nthX (nthF m.funcs i).code k).n.toNat).params.length) = (nthX (nthF m.funcs i).code k).b + (nthF m.funcs (nthX (nthF m.funcs i).code k).n.toNat).params.length := IntWalk.wrap64_in _ (by omega)
      rw [e1] at n2
      have e2 : wrap64 ((nthX (nthF m.funcs i).code k).b + (j : Int)) = (nthX (nthF m.funcs i).code k).b + (j : Int) := IntWalk.wrap64_in _ (by omega)
      rw [e2]
      omega
    · rw [if_neg h19, if_pos hx.known] at hr
      simp only [List.mem_append] at hr
      rcases hr with hr | hr | hr
      · split at hr
        · rename_i q
          simp only [List.mem_singleton] at hr; subst hr
          simp only [Bool.and_eq_true] at q
          exact hx.a q.1
        · simp at hr
      · split at hr
        · rename_i q
          simp only [List.mem_singleton] at hr; subst hr
          exact hx.b q
        · simp at hr
      · split at hr
        · rename_i q
          simp only [List.mem_singleton] at hr; subst hr
          exact hx.c q
        · simp at hr
  · unfold writes
    split
    · rename_i q
      simp only [Bool.and_eq_true] at q
      exact .inr (hx.a (r1 q.2))
    · exact .inl rfl
  · have h2 := r3 (by omega) (by omega)
    have hn := hx.n
    unfold nErr at hn
    rw [h2] at hn
    simp at hn
    omega
  · have hend := hf.last
    unfold lastOp at hend
    rw [show (nthF m.funcs i).code.length - 1 = k by omega] at hend
    simpa [endsOk, or_assoc] using hend
end Go.Proofs.YtpmffclepnkedaaDoor
