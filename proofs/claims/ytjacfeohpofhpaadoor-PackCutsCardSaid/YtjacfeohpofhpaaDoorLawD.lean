/-
  Layer 11 (pack), in plain Lean: bytes that begin as a module's, be they cut off or go on, are read as that module.
-/
import Derived.Test.YtjacfeohpofhpaaDoorDecK
import Derived.Test.YtjacfeohpofhpaaDoorEncP
import Derived.Test.YtjacfeohpofhpaaDoorPlainC
namespace Go.Proofs.YtjacfeohpofhpaaDoor
open Go.RowKit
set_option linter.unusedSimpArgs false
set_option linter.unusedVariables false
theorem emod_split (n a b : Int) (ha : 0 < a) (hb : 0 < b) : n % (a * b) = n % a + a * (n / a % b) := by
  have h1 : n % a + a * (n / a) = n := Int.emod_add_mul_ediv n a
  have h2 : n / a % b + b * (n / a / b) = n / a := Int.emod_add_mul_ediv (n / a) b
  have r1 := Int.emod_nonneg n (show a ≠ 0 by omega)
  have r2 := Int.emod_lt_of_pos n ha
  have r3 := Int.emod_nonneg (n / a) (show b ≠ 0 by omega)
  have r4 := Int.emod_lt_of_pos (n / a) hb
  have e : n = (n % a + a * (n / a % b)) + a * b * (n / a / b) := by
    conv => lhs; rw [← h1]
    rw [Int.mul_assoc a b, Int.add_assoc, ← Int.mul_add, h2]
  have l1 : 0 ≤ a * (n / a % b) := Int.mul_nonneg (by omega) r3
  have l2 : a * (n / a % b) ≤ a * (b - 1) := Int.mul_le_mul_of_nonneg_left (by omega) (by omega)
  rw [Int.mul_sub, Int.mul_one] at l2
  conv => lhs; rw [e]
  rw [Int.add_mul_emod_self_left, Int.emod_eq_of_lt (by omega) (by omega)]
theorem pow256 (k : Nat) : (2 : Int) ^ (8 * k) = 256 ^ k := by rw [Int.pow_mul]; rfl
theorem pow256_pos (k : Nat) : (0 : Int) < 256 ^ k := Int.pow_pos (by omega)
theorem cast256 (k c d : Nat) : ((c + 256 ^ k * d : Nat) : Int) = (c : Int) + 256 ^ k * (d : Int) := by
  have hp : (((256 : Nat) ^ k : Nat) : Int) = (256 : Int) ^ k := Int.natCast_pow 256 k
  rw [Int.natCast_add, Int.natCast_mul, hp]
theorem leN_encNum (z : Int) : ∀ k, ((leN (encNum z k) : Nat) : Int) = z % 256 ^ k
  | 0 => by simp [encNum, leN, Int.emod_one]
  | k + 1 => by
    rw [encNum_succ, leN_app, encNum_len]
    have h := leN_encNum z k
    have hb := byteB_nat (z / 2 ^ (8 * k))
    rw [pow256] at hb ⊢
    rw [Int.pow_succ, emod_split _ _ _ (pow256_pos k) (by omega)]
    simp only [leN, Nat.mul_zero, Nat.add_zero]
    rw [cast256, h, hb]
theorem encNum_of {X : List UInt8} : ∀ {k : Nat} {z : Int}, X.length = k → z % 256 ^ k = (leN X : Nat) → encNum z k = X := by
  intro k
  induction k generalizing X with
  | zero => intro z h _; rw [List.eq_nil_of_length_eq_zero h]; rfl
  | succ k ih =>
    intro z h hz
    have hne : X ≠ [] := by intro e; subst e; simp at h
    have e : X = X.dropLast ++ [X.getLast hne] := (List.dropLast_concat_getLast hne).symm
    have hl : X.dropLast.length = k := by rw [List.length_dropLast]; omega
    generalize X.dropLast = Y at *
    generalize X.getLast hne = c at *
    subst e
    rw [leN_app, hl, Int.pow_succ, emod_split _ _ _ (pow256_pos k) (by omega)] at hz
    simp only [leN, Nat.mul_zero, Nat.add_zero] at hz
    rw [cast256] at hz
    have hlt := leN_lt Y
    rw [hl] at hlt
    have hp : (((256 : Nat) ^ k : Nat) : Int) = (256 : Int) ^ k := Int.natCast_pow 256 k
    have hlt2 : ((leN Y : Nat) : Int) < 256 ^ k := by rw [← hp]; exact Int.ofNat_lt.2 hlt
    have r1 := Int.emod_nonneg z (show (256 : Int) ^ k ≠ 0 by have := pow256_pos k; omega)
    have r2 := Int.emod_lt_of_pos z (pow256_pos k)
    have hc := c.toNat_lt
    have e1 : z % 256 ^ k = (leN Y : Nat) := by
      have a1 := congrArg (· % (256 : Int) ^ k) hz
      simp only [Int.add_mul_emod_self_left] at a1
      rwa [Int.emod_emod, Int.emod_eq_of_lt (by omega) hlt2] at a1
    rw [e1] at hz
    have e2 : (256 : Int) ^ k * (z / 256 ^ k % 256) = 256 ^ k * (c.toNat : Int) := by omega
    have e3 : z / 256 ^ k % 256 = (c.toNat : Int) := Int.eq_of_mul_eq_mul_left (by have := pow256_pos k; omega) e2
    rw [encNum_succ, ih hl e1, pow256]
    congr 2
    apply UInt8.toNat_inj.1
    have := byteB_nat (z / 256 ^ k)
    omega
theorem i64_back {z : Int} {n : Nat} (hz : In64 z) (h : (n : Int) = z % 18446744073709551616) : i64 n = z := by
  unfold In64 at hz
  rw [i64, IntKind.wrap_i64]; omega
theorem i64_mod (n : Nat) (h : n < 18446744073709551616) : i64 n % 18446744073709551616 = n := by rw [i64, IntKind.wrap_i64]; omega
/-- As far as L goes, X lies in it from a on. -/
def AtC (L : List UInt8) (a : Nat) (X : List UInt8) : Prop := ∀ i, i < X.length → a + i < L.length → L.getD (a + i) 0 = X.getD i 0
theorem AtC.app {L X Y : List UInt8} {a : Nat} (h : AtC L a (X ++ Y)) : AtC L a X ∧ AtC L (a + X.length) Y := by
  refine ⟨fun i hi hl => ?_, fun i hi hl => ?_⟩
  · have := h i (by simp; omega) hl
    rw [this]; simp [List.getD_eq_getElem?_getD, List.getElem?_append_left hi]
  · have := h (X.length + i) (by simp; omega) (by omega)
    rw [Nat.add_assoc, this]; simp [List.getD_eq_getElem?_getD, List.getElem?_append_right (show X.length ≤ X.length + i by omega)]
/-- How far was read: to a, or the bytes ended ahead of it. -/
def cutA (L : List UInt8) (a : Nat) : St := if a ≤ L.length then .ok a else .bad 6 L.length
theorem cut_take (L : List UInt8) (a n : Nat) : takeS L (cutA L a) n = cutA L (a + n) := by
  unfold cutA
  by_cases h : a ≤ L.length
  · rw [if_pos h]; rfl
  · rw [if_neg h, if_neg (by omega)]; rfl
theorem cut_read {L X : List UInt8} {a : Nat} (h : AtC L a X) (hl : a + X.length ≤ L.length) : readL L (cutA L a) X.length = X := by
  unfold cutA
  rw [if_pos (by omega)]
  simp only [readL, if_pos hl]
  apply List.ext_getElem?
  intro i
  rw [List.getElem?_take]
  split
  · rename_i hi
    have h1 := h i hi (by omega)
    rw [List.getElem?_drop]
    simp only [List.getD_eq_getElem?_getD, List.getElem?_eq_getElem (show a + i < L.length by omega), List.getElem?_eq_getElem hi, Option.getD_some] at h1 ⊢
    rw [h1]
  · rename_i hi
    rw [List.getElem?_eq_none (by omega)]
theorem nat_ok {L X : List UInt8} {a k : Nat} (h : AtC L a X) (hk : X.length = k) (hl : a + k ≤ L.length) : natS L (cutA L a) k = leN X := by
  subst hk
  rw [natS, cut_read h hl]
theorem num_fwd {L : List UInt8} {a : Nat} {z : Int} (h : AtC L a (encNum z 8)) (hz : In64 z) (hl : a + 8 ≤ L.length) : i64 (natS L (cutA L a) 8) = z := by
  rw [nat_ok h (encNum_len _ _) hl]
  exact i64_back hz (leN_encNum z 8)
theorem num2_fwd {L : List UInt8} {a : Nat} {z : Int} (h : AtC L a (encNum z 2)) (hz : 0 ≤ z ∧ z < 65536) (hl : a + 2 ≤ L.length) : ((natS L (cutA L a) 2 : Nat) : Int) = z := by
  rw [nat_ok h (encNum_len _ _) hl, leN_encNum]
  show z % 65536 = z
  omega
theorem byte_fwd {L : List UInt8} {a : Nat} {z : Int} (h : AtC L a [byteB z]) (hz : 0 ≤ z ∧ z < 256) (hl : a + 1 ≤ L.length) : ((natS L (cutA L a) 1 : Nat) : Int) = z := by
  rw [nat_ok (k := 1) h rfl hl]
  simp only [leN, Nat.mul_zero, Nat.add_zero]
  rw [byteB_nat]; omega
theorem cnt_cut {L : List UInt8} {a k most n : Nat} {e : Int} (h : a + k ≤ L.length → natS L (cutA L a) k = n) (hn : n ≤ most) : cntS L (cutA L a) k most e = cutA L (a + k) ∧ (a + k ≤ L.length → cntV L (cutA L a) k most = n) := by
  unfold cntS cntV
  rw [cut_take]
  by_cases hl : a + k ≤ L.length
  · have e1 : cutA L (a + k) = .ok (a + k) := if_pos hl
    rw [e1, h hl]
    simp only [if_neg (show ¬ most < n by omega)]
    exact ⟨trivial, fun _ => trivial⟩
  · have e1 : cutA L (a + k) = .bad 6 L.length := if_neg hl
    rw [e1]
    exact ⟨rfl, fun h => absurd h hl⟩
theorem cutA_bad {L : List UInt8} {a : Nat} (h : ¬ a ≤ L.length) : (cutA L a).isOk = false := by rw [cutA, if_neg h]; rfl
theorem cutA_far {L : List UInt8} {a b : Nat} (h : ¬ a ≤ L.length) (hb : a ≤ b) : cutA L a = cutA L b := by rw [cutA, cutA, if_neg h, if_neg (by omega)]
end Go.Proofs.YtjacfeohpofhpaaDoor

/-
  Layer 11 (pack), in plain Lean: bytes that begin as a module's are read as that module: its parts, and the whole.
-/
namespace Go.Proofs.YtjacfeohpofhpaaDoor
open Go.RowKit
set_option linter.unusedSimpArgs false
set_option linter.unusedVariables false
variable {L : List UInt8} {a : Nat}
/-- Numbers that a byte, or two, hold. -/
structure XFits (x : InsD) : Prop where
  op : 0 ≤ x.op ∧ x.op < 256
  a : 0 ≤ x.a ∧ x.a < 256
  b : 0 ≤ x.b ∧ x.b < 256
  c : 0 ≤ x.c ∧ x.c < 256
  n : In64 x.n
structure FFits (f : FuncD) : Prop where
  name : f.name.size ≤ 16
  plen : f.params.length ≤ 8
  params : ∀ k, k < f.params.length → (nthS f.params k).Wf
  regs : 0 ≤ f.regs ∧ f.regs < 256
  words : 0 ≤ f.words ∧ f.words < 65536
  clen : f.code.length ≤ 1024
  code : ∀ k, k < f.code.length → XFits (nthX f.code k)
structure MFits (m : ModD) : Prop where
  tlen : m.ths.length ≤ 16
  ths : ∀ k, k < m.ths.length → In64 (nthI m.ths k)
  flen : m.funcs.length ≤ 32
  funcs : ∀ k, k < m.funcs.length → FFits (nthF m.funcs k)
theorem takeI_succ {l : List Int} {k : Nat} (h : k < l.length) : l.take (k + 1) = l.take k ++ [nthI l k] := by
  rw [List.take_add_one, List.getElem?_eq_getElem h, nthI, List.getD_eq_getElem?_getD, List.getElem?_eq_getElem h]; rfl
theorem takeSp_succ {l : List Sp} {k : Nat} (h : k < l.length) : l.take (k + 1) = l.take k ++ [nthS l k] := by
  rw [List.take_add_one, List.getElem?_eq_getElem h, nthS, List.getD_eq_getElem?_getD, List.getElem?_eq_getElem h]; rfl
theorem takeX_succ {l : List InsD} {k : Nat} (h : k < l.length) : l.take (k + 1) = l.take k ++ [nthX l k] := by
  rw [List.take_add_one, List.getElem?_eq_getElem h, nthX, List.getD_eq_getElem?_getD, List.getElem?_eq_getElem h]; rfl
theorem takeF_succ {l : List FuncD} {k : Nat} (h : k < l.length) : l.take (k + 1) = l.take k ++ [nthF l k] := by
  rw [List.take_add_one, List.getElem?_eq_getElem h, nthF, List.getD_eq_getElem?_getD, List.getElem?_eq_getElem h]; rfl
theorem ths_fwd {m : ModD} (hm : MFits m) : ∀ k, k ≤ m.ths.length → AtC L 0 (encT m k) → (thsS L k (cutA L 5)).1 = cutA L (5 + 8 * k) ∧ (5 + 8 * k ≤ L.length → (thsS L k (cutA L 5)).2 = m.ths.take k)
  | 0, _, _ => ⟨rfl, fun _ => rfl⟩
  | k + 1, hk, h => by
    obtain ⟨h1, h2⟩ := AtC.app (show AtC L 0 (encT m k ++ encNum (nthI m.ths k) 8) from h)
    rw [encT_len, Nat.zero_add] at h2
    obtain ⟨e1, e2⟩ := ths_fwd hm k (by omega) h1
    refine ⟨by rw [thsS, e1, cut_take]; rfl, fun hl => ?_⟩
    rw [thsS, e1, e2 (by omega), num_fwd h2 (hm.ths k (by omega)) (by omega), takeI_succ (by omega)]
theorem ps_fwd {f : FuncD} (hf : FFits f) : ∀ k, k ≤ f.params.length → AtC L a (encPs f k) → (psS L k (cutA L a)).1 = cutA L (a + 16 * k) ∧ (a + 16 * k ≤ L.length → (psS L k (cutA L a)).2 = f.params.take k)
  | 0, _, _ => ⟨rfl, fun _ => rfl⟩
  | k + 1, hk, h => by
    obtain ⟨h1, h2⟩ := AtC.app (show AtC L a (encPs f k ++ encSp (nthS f.params k)) from h)
    rw [encPs_len] at h2
    obtain ⟨h3, h4⟩ := h2.app
    rw [encNum_len] at h4
    obtain ⟨e1, e2⟩ := ps_fwd hf k (by omega) h1
    obtain ⟨w1, w2⟩ := hf.params k (by omega)
    refine ⟨by rw [psS, e1, cut_take, cut_take]; congr 1, fun hl => ?_⟩
    rw [psS, e1, e2 (by omega), cut_take, num_fwd h3 w1 (by omega), num_fwd h4 w2 (by omega), takeSp_succ (by omega)]
theorem x_fwd {x : InsD} (hx : XFits x) (h : AtC L a (encX x)) : insS L (cutA L a) = cutA L (a + 12) ∧ (a + 12 ≤ L.length → insD L (cutA L a) = x) := by
  obtain ⟨h1, h2⟩ := h.app
  refine ⟨by rw [insS, cut_take, cut_take], fun hl => ?_⟩
  have hr := cut_read h1 (show a + 4 ≤ L.length by omega)
  have h4 : [byteB x.op, byteB x.a, byteB x.b, byteB x.c].length = 4 := rfl
  rw [h4] at hr
  have hn := num_fwd h2 hx.n (show a + 4 + 8 ≤ L.length by omega)
  have b0 := byteB_nat x.op
  have b1 := byteB_nat x.a
  have b2 := byteB_nat x.b
  have b3 := byteB_nat x.c
  have := hx.op
  have := hx.a
  have := hx.b
  have := hx.c
  unfold insD
  rw [hr, cut_take]
  obtain ⟨op, xa, xb, xc, xn⟩ := x
  simp only [InsD.mk.injEq]
  refine ⟨?_, ?_, ?_, ?_, hn⟩
  · show ((byteB op).toNat : Int) = op
    simp only at *; omega
  · show ((byteB xa).toNat : Int) = xa
    simp only at *; omega
  · show ((byteB xb).toNat : Int) = xb
    simp only at *; omega
  · show ((byteB xc).toNat : Int) = xc
    simp only at *; omega
theorem cs_fwd {f : FuncD} (hf : FFits f) : ∀ k, k ≤ f.code.length → AtC L a (encC f k) → (csS L k (cutA L a)).1 = cutA L (a + 12 * k) ∧ (a + 12 * k ≤ L.length → (csS L k (cutA L a)).2 = f.code.take k)
  | 0, _, _ => ⟨rfl, fun _ => rfl⟩
  | k + 1, hk, h => by
    obtain ⟨h1, h2⟩ := AtC.app (show AtC L a (encC f k ++ encX (nthX f.code k)) from h)
    rw [encC_len] at h2
    obtain ⟨e1, e2⟩ := cs_fwd hf k (by omega) h1
    obtain ⟨e3, e4⟩ := x_fwd (hf.code k (by omega)) h2
    refine ⟨by rw [csS, e1, e3]; congr 1, fun hl => ?_⟩
    rw [csS, e1, e2 (by omega), e4 (by omega), takeX_succ (by omega)]
theorem psS_any {n k : Nat} (h : a ≤ L.length → n = k) {b : Nat} (hab : a ≤ b) (hk : (psS L k (cutA L a)).1 = cutA L b) : (psS L n (cutA L a)).1 = cutA L b := by
  by_cases hl : a ≤ L.length
  · rw [h hl]; exact hk
  · rw [psS_bad (cutA_bad hl), cutA_far hl hab]
theorem csS_any {n k : Nat} (h : a ≤ L.length → n = k) {b : Nat} (hab : a ≤ b) (hk : (csS L k (cutA L a)).1 = cutA L b) : (csS L n (cutA L a)).1 = cutA L b := by
  by_cases hl : a ≤ L.length
  · rw [h hl]; exact hk
  · rw [csS_bad (cutA_bad hl), cutA_far hl hab]
theorem thsS_any {n k : Nat} (h : a ≤ L.length → n = k) {b : Nat} (hab : a ≤ b) (hk : (thsS L k (cutA L a)).1 = cutA L b) : (thsS L n (cutA L a)).1 = cutA L b := by
  by_cases hl : a ≤ L.length
  · rw [h hl]; exact hk
  · rw [thsS_bad (cutA_bad hl), cutA_far hl hab]
theorem fsS_any {n k : Nat} (h : a ≤ L.length → n = k) {b : Nat} (hab : a ≤ b) (hk : (fsS L k (cutA L a)).1 = cutA L b) : (fsS L n (cutA L a)).1 = cutA L b := by
  by_cases hl : a ≤ L.length
  · rw [h hl]; exact hk
  · rw [fsS_bad (cutA_bad hl), cutA_far hl hab]
theorem take_any {n k : Nat} (h : a ≤ L.length → n = k) : takeS L (cutA L a) n = cutA L (a + k) := by
  by_cases hl : a ≤ L.length
  · rw [h hl, cut_take]
  · rw [takeS_bad (cutA_bad hl), cutA_far hl (Nat.le_add_right _ _)]
theorem nat_byte {n : Nat} (h : AtC L a [byteB (n : Int)]) (hn : n < 256) (hl : a + 1 ≤ L.length) : natS L (cutA L a) 1 = n := by
  have := byte_fwd h (by omega) hl
  omega
theorem f_fwd {f : FuncD} (hf : FFits f) (h : AtC L a (encF f)) : funS L (cutA L a) = cutA L (a + (encF f).length) ∧ (a + (encF f).length ≤ L.length → funD L (cutA L a) = bare f) := by
  have hnl := hf.name
  have hpl := hf.plen
  have hcl := hf.clen
  rw [encF_len]
  unfold encF headF midF at h
  obtain ⟨h, hC⟩ := h.app
  obtain ⟨h, hM⟩ := h.app
  obtain ⟨h, hP⟩ := h.app
  obtain ⟨h, hb⟩ := h.app
  obtain ⟨ha, hnm⟩ := h.app
  obtain ⟨hM, hcc⟩ := hM.app
  obtain ⟨hr, hw⟩ := hM.app
  have hsz : f.name.data.toList.length = f.name.size := rfl
  simp only [List.length_append, List.length_cons, List.length_nil, encNum_len, encPs_len, hsz, Nat.zero_add] at hC hcc hw hr hP hb hnm
  obtain ⟨s1, v1⟩ := cnt_cut (e := 8) (fun hl => nat_byte ha (by omega) hl) (show f.name.size ≤ 16 by omega)
  have t1 : fs1 L (cutA L a) = cutA L (a + 1) := s1
  have t2 : fs2 L (cutA L a) = cutA L (a + 1 + f.name.size) := by rw [fs2, t1]; exact take_any v1
  rw [show a + (1 + f.name.size) = a + 1 + f.name.size by omega] at hb
  obtain ⟨s3, v3⟩ := cnt_cut (e := 3) (fun hl => nat_byte hb (by omega) hl) (show f.params.length ≤ 8 by omega)
  have t3 : fs3 L (cutA L a) = cutA L (a + 1 + f.name.size + 1) := by rw [fs3, t2]; exact s3
  rw [show a + (1 + f.name.size + 1) = a + 1 + f.name.size + 1 by omega] at hP
  obtain ⟨p1, p2⟩ := ps_fwd hf f.params.length (Nat.le_refl _) hP
  have t4 : (fps L (cutA L a)).1 = cutA L (a + 1 + f.name.size + 1 + 16 * f.params.length) := by
    rw [fps, t2, t3]; exact psS_any v3 (Nat.le_add_right _ _) p1
  generalize hq : a + 1 + f.name.size + 1 + 16 * f.params.length = q at *
  rw [show a + (1 + f.name.size + 1 + 16 * f.params.length) = q by omega] at hr hw hcc
  have t5 : fs5 L (cutA L a) = cutA L (q + 1) := by rw [fs5, t4, cut_take]
  have t6 : fs6 L (cutA L a) = cutA L (q + 1 + 2) := by rw [fs6, t5, cut_take]
  rw [show q + (1 + 2) = q + 1 + 2 by omega] at hcc
  obtain ⟨s7, v7⟩ := cnt_cut (e := 97) (n := f.code.length) (most := 1024) (fun hl => by have := num2_fwd hcc (by omega) hl; omega) (show f.code.length ≤ 1024 by omega)
  have t7 : fs7 L (cutA L a) = cutA L (q + 1 + 2 + 2) := by rw [fs7, t6]; exact s7
  rw [show a + (1 + f.name.size + 1 + 16 * f.params.length + (1 + 2 + 2)) = q + 1 + 2 + 2 by omega] at hC
  obtain ⟨c1, c2⟩ := cs_fwd hf f.code.length (Nat.le_refl _) hC
  have t8 : (fcs L (cutA L a)).1 = cutA L (q + 1 + 2 + 2 + 12 * f.code.length) := by
    rw [fcs, t6, t7]; exact csS_any v7 (Nat.le_add_right _ _) c1
  refine ⟨by rw [funS, t8]; congr 1; omega, fun hl => ?_⟩
  have r1 := byte_fwd hr hf.regs (by omega)
  have r2 := num2_fwd hw hf.words (by omega)
  have e1 : fnm L (cutA L a) = f.name := by
    rw [fnm, t1, v1 (by omega)]
    have := cut_read hnm (by rw [hsz]; omega)
    rw [hsz] at this
    rw [this]
  have e2 : (fps L (cutA L a)).2 = f.params := by rw [fps, t2, t3, v3 (by omega), p2 (by omega), List.take_length]
  have e3 : (fcs L (cutA L a)).2 = f.code := by rw [fcs, t6, t7, v7 (by omega), c2 (by omega), List.take_length]
  have e4 : i64 (natS L (fps L (cutA L a)).1 1) = f.regs := by
    rw [t4, i64_small (by have := hf.regs; omega)]; exact r1
  have e5 : i64 (natS L (fs5 L (cutA L a)) 2) = f.words := by
    rw [t5, i64_small (by have := hf.words; omega)]; exact r2
  unfold funD bare
  rw [e1, e2, e3, e4, e5]
theorem fs_fwd {m : ModD} (hm : MFits m) : ∀ k, k ≤ m.funcs.length → AtC L 0 (encFs m k) → (fsS L k (cutA L (encFs m 0).length)).1 = cutA L (encFs m k).length ∧ ((encFs m k).length ≤ L.length → (fsS L k (cutA L (encFs m 0).length)).2 = (m.funcs.take k).map bare)
  | 0, _, _ => ⟨rfl, fun _ => rfl⟩
  | k + 1, hk, h => by
    obtain ⟨h1, h2⟩ := AtC.app (show AtC L 0 (encFs m k ++ encF (nthF m.funcs k)) from h)
    rw [Nat.zero_add] at h2
    obtain ⟨e1, e2⟩ := fs_fwd hm k (by omega) h1
    obtain ⟨e3, e4⟩ := f_fwd (hm.funcs k (by omega)) h2
    have hlen : (encFs m (k + 1)).length = (encFs m k).length + (encF (nthF m.funcs k)).length := List.length_append
    refine ⟨by rw [fsS, e1, e3, hlen], fun hl => ?_⟩
    rw [fsS, e1, e2 (by omega), e4 (by omega), takeF_succ (by omega), List.map_append]; rfl
theorem AtC.pre {X Y : List UInt8} (h : AtC L a (X ++ Y)) : AtC L a X := h.app.1
theorem encT_pre (m : ModD) : ∀ {k n : Nat}, k ≤ n → ∃ Y, encT m n = encT m k ++ Y
  | k, 0, h => by obtain rfl : k = 0 := by omega
                  exact ⟨[], by simp⟩
  | k, n + 1, h => by
    rcases Nat.eq_or_lt_of_le h with rfl | q
    · exact ⟨[], by simp⟩
    · obtain ⟨Y, e⟩ := encT_pre m (show k ≤ n by omega)
      exact ⟨Y ++ encNum (nthI m.ths n) 8, by rw [encT, e, List.append_assoc]⟩
theorem encFs_pre (m : ModD) : ∀ {k n : Nat}, k ≤ n → ∃ Y, encFs m n = encFs m k ++ Y
  | k, 0, h => by obtain rfl : k = 0 := by omega
                  exact ⟨[], by simp⟩
  | k, n + 1, h => by
    rcases Nat.eq_or_lt_of_le h with rfl | q
    · exact ⟨[], by simp⟩
    · obtain ⟨Y, e⟩ := encFs_pre m (show k ≤ n by omega)
      exact ⟨Y ++ encF (nthF m.funcs n), by rw [encFs, e, List.append_assoc]⟩
theorem mk_fwd (h : AtC L 0 [83, 70, 84, 1]) : ∀ i, i ≤ 4 → mkS L i = cutA L i
  | 0, _ => by rw [mkS, cutA, if_pos (Nat.zero_le _)]
  | i + 1, hi => by
    have ih := mk_fwd h i (by omega)
    rw [mkS, ih, cut_take]
    by_cases hl : i + 1 ≤ L.length
    · have h1 : L.getD (0 + i) 0 = ([83, 70, 84, 1] : List UInt8).getD i 0 := h i (by simp; omega) (by omega)
      rw [Nat.zero_add] at h1
      have h2 : natS L (cutA L i) 1 = markB i := by
        rw [cutA, if_pos (by omega), natS_one (by omega), h1]
        obtain rfl | rfl | rfl | rfl : i = 0 ∨ i = 1 ∨ i = 2 ∨ i = 3 := by omega
        all_goals rfl
      rw [if_pos h2]
    · have e : cutA L (i + 1) = .bad 6 L.length := if_neg hl
      rw [e]
      split <;> rfl
/-- Bytes that begin as a module's: how far they are read, and as what. -/
theorem m_fwd {m : ModD} (hm : MFits m) (h : AtC L 0 (encM m)) : (dfs L).1 = cutA L (encM m).length ∧ ((encM m).length ≤ L.length → (dths L).2 = m.ths ∧ (dfs L).2 = m.funcs.map bare) := by
  have htl := hm.tlen
  have hfl := hm.flen
  obtain ⟨Y, e⟩ := encFs_pre m (Nat.zero_le m.funcs.length)
  have h0 : AtC L 0 (encFs m 0) := by
    have h' := h
    unfold encM at h'
    rw [e] at h'
    exact h'.pre
  obtain ⟨hT, hF⟩ := AtC.app (show AtC L 0 (encT m m.ths.length ++ [byteB (m.funcs.length : Int)]) from h0)
  rw [encT_len, Nat.zero_add] at hF
  obtain ⟨Z, e2⟩ := encT_pre m (Nat.zero_le m.ths.length)
  have h5 : AtC L 0 (encT m 0) := by
    have h' := hT
    rw [e2] at h'
    exact h'.pre
  obtain ⟨h4, hn⟩ := AtC.app (show AtC L 0 ([83, 70, 84, 1] ++ [byteB (m.ths.length : Int)]) from h5)
  have m4 := mk_fwd h4 4 (Nat.le_refl _)
  obtain ⟨s1, v1⟩ := cnt_cut (e := 3) (fun hl => nat_byte hn (by omega) hl) (show m.ths.length ≤ 16 by omega)
  have t1 : ds1 L = cutA L 5 := by rw [ds1, m4]; exact s1
  have n1 : 5 ≤ L.length → dn1 L = m.ths.length := fun hl => by rw [dn1, m4]; exact v1 hl
  obtain ⟨p1, p2⟩ := ths_fwd hm m.ths.length (Nat.le_refl _) hT
  have t2 : (dths L).1 = cutA L (5 + 8 * m.ths.length) := by rw [dths, t1]; exact thsS_any n1 (Nat.le_add_right _ _) p1
  obtain ⟨s2, v2⟩ := cnt_cut (e := 3) (fun hl => nat_byte hF (by omega) hl) (show m.funcs.length ≤ 32 by omega)
  have hl0 : (encFs m 0).length = 5 + 8 * m.ths.length + 1 := by rw [encFs, List.length_append, encT_len]; rfl
  have t3 : ds2 L = cutA L (encFs m 0).length := by rw [ds2, t2, hl0]; exact s2
  have n2 : (encFs m 0).length ≤ L.length → dn2 L = m.funcs.length := fun hl => by rw [dn2, t2]; exact v2 (by omega)
  obtain ⟨q1, q2⟩ := fs_fwd hm m.funcs.length (Nat.le_refl _) h
  have hle : (encFs m 0).length ≤ (encM m).length := by unfold encM; rw [e, List.length_append]; omega
  refine ⟨by rw [dfs, t3]; exact fsS_any n2 hle q1, fun hl => ⟨?_, ?_⟩⟩
  · rw [dths, t1, n1 (by omega), p2 (by omega), List.take_length]
  · rw [dfs, t3, n2 (by omega), q2 hl, List.take_length]
end Go.Proofs.YtjacfeohpofhpaaDoor

/-
  Layer 11 (pack), in plain Lean: bytes that are taken are those of the module that they are read as.
-/
namespace Go.Proofs.YtjacfeohpofhpaaDoor
open Go.RowKit
set_option linter.unusedSimpArgs false
set_option linter.unusedVariables false
variable {L : List UInt8} {a b : Nat} {s : St}
theorem take_inv {n : Nat} (h : (takeS L (.ok a) n).isOk = true) : takeS L (.ok a) n = .ok (a + n) ∧ a + n ≤ L.length := by
  simp only [takeS] at h ⊢
  split at h
  · rename_i hl; rw [if_pos hl]; exact ⟨rfl, hl⟩
  · cases h
theorem cnt_inv {k most : Nat} {e : Int} (h : (cntS L (.ok a) k most e).isOk = true) : cntS L (.ok a) k most e = .ok (a + k) ∧ a + k ≤ L.length ∧ cntV L (.ok a) k most = natS L (.ok a) k := by
  have h2 : (takeS L (.ok a) k).isOk = true := by
    unfold cntS at h
    split at h
    · rename_i x hx; rw [hx]; rfl
    · rename_i x y hx; rw [hx]; exact h
  obtain ⟨e1, e2⟩ := take_inv h2
  unfold cntS at h ⊢
  unfold cntV
  rw [e1] at h ⊢
  simp only at h ⊢
  split at h
  · cases h
  · rename_i hg
    rw [if_neg hg, if_neg hg]
    exact ⟨rfl, e2, rfl⟩
theorem read_inv {n : Nat} (hl : a + n ≤ L.length) : readL L (.ok a) n = (L.drop a).take n := by simp only [readL, if_pos hl]
theorem num_inv (hl : a + 8 ≤ L.length) : encNum (i64 (natS L (.ok a) 8)) 8 = (L.drop a).take 8 := by
  have h := natS_lt L (.ok a) 8
  rw [← read_inv hl]
  exact encNum_of (readL_len _ _ _) (i64_mod _ h)
theorem num2_inv (hl : a + 2 ≤ L.length) {z : Int} (hz : z = natS L (.ok a) 2) : encNum z 2 = (L.drop a).take 2 := by
  have h := natS_lt L (.ok a) 2
  rw [← read_inv hl]
  refine encNum_of (readL_len _ _ _) ?_
  rw [hz]
  show ((natS L (.ok a) 2 : Nat) : Int) % 65536 = _
  unfold natS at h ⊢
  omega
theorem byteB_of {z : Int} {c : UInt8} (h : z = c.toNat) : byteB z = c := by
  apply UInt8.toNat_inj.1
  have := byteB_nat z
  have := c.toNat_lt
  omega
theorem byte_inv (hl : a + 1 ≤ L.length) {z : Int} (hz : z = natS L (.ok a) 1) : [byteB z] = (L.drop a).take 1 := by
  rw [natS_one hl] at hz
  rw [byteB_of hz, List.drop_eq_getElem_cons (by omega), List.take_succ_cons, List.take_zero, List.getD_eq_getElem?_getD, List.getElem?_eq_getElem (by omega)]; rfl
theorem take_more {n k : Nat} : L.take (n + k) = L.take n ++ (L.drop n).take k := List.take_add
theorem drop_more {n k : Nat} : (L.drop a).take (n + k) = (L.drop a).take n ++ (L.drop (a + n)).take k := by
  rw [List.take_add, List.drop_drop]
/-! ### What stands at each place of what was read -/
theorem ths_at (s : St) : ∀ n k, k < n → nthI (thsS L n s).2 k = i64 (natS L (thsS L k s).1 8)
  | n + 1, k, h => by
    have hl := thsS_len L n s
    rcases Nat.eq_or_lt_of_le (Nat.lt_succ_iff.1 h) with rfl | q
    · rw [thsS, nthI]; simp [hl]
    · rw [← ths_at s n k q, thsS, nthI, nthI]; simp [List.getElem?_append_left, hl, q]
theorem ps_at (s : St) : ∀ n k, k < n → nthS (psS L n s).2 k = ⟨i64 (natS L (psS L k s).1 8), i64 (natS L (takeS L (psS L k s).1 8) 8)⟩
  | n + 1, k, h => by
    have hl := psS_len L n s
    rcases Nat.eq_or_lt_of_le (Nat.lt_succ_iff.1 h) with rfl | q
    · rw [psS, nthS]; simp [hl]
    · rw [← ps_at s n k q, psS, nthS, nthS]; simp [List.getElem?_append_left, hl, q]
theorem cs_at (s : St) : ∀ n k, k < n → nthX (csS L n s).2 k = insD L (csS L k s).1
  | n + 1, k, h => by
    have hl := csS_len L n s
    rcases Nat.eq_or_lt_of_le (Nat.lt_succ_iff.1 h) with rfl | q
    · rw [csS, nthX]; simp [hl]
    · rw [← cs_at s n k q, csS, nthX, nthX]; simp [List.getElem?_append_left, hl, q]
theorem fs_at (s : St) : ∀ n k, k < n → nthF (fsS L n s).2 k = funD L (fsS L k s).1
  | n + 1, k, h => by
    have hl := fsS_len L n s
    rcases Nat.eq_or_lt_of_le (Nat.lt_succ_iff.1 h) with rfl | q
    · rw [fsS, nthF]; simp [hl]
    · rw [← fs_at s n k q, fsS, nthF, nthF]; simp [List.getElem?_append_left, hl, q]
theorem ths_ok (s : St) : ∀ n k, k ≤ n → (thsS L n s).1.isOk = true → (thsS L k s).1.isOk = true
  | 0, k, h, ho => by obtain rfl : k = 0 := by omega
                      exact ho
  | n + 1, k, h, ho => by
    rcases Nat.eq_or_lt_of_le h with rfl | q
    · exact ho
    · exact ths_ok s n k (by omega) (takeS_okof ho)
theorem ps_ok (s : St) : ∀ n k, k ≤ n → (psS L n s).1.isOk = true → (psS L k s).1.isOk = true
  | 0, k, h, ho => by obtain rfl : k = 0 := by omega
                      exact ho
  | n + 1, k, h, ho => by
    rcases Nat.eq_or_lt_of_le h with rfl | q
    · exact ho
    · exact ps_ok s n k (by omega) (takeS_okof (takeS_okof ho))
theorem cs_ok (s : St) : ∀ n k, k ≤ n → (csS L n s).1.isOk = true → (csS L k s).1.isOk = true
  | 0, k, h, ho => by obtain rfl : k = 0 := by omega
                      exact ho
  | n + 1, k, h, ho => by
    rcases Nat.eq_or_lt_of_le h with rfl | q
    · exact ho
    · exact cs_ok s n k (by omega) (insS_okof ho)
theorem funS_okof {s : St} (h : (funS L s).isOk = true) : s.isOk = true := cntS_okof (takeS_okof (fs2_okof' h))
  where fs2_okof' {s : St} (h : (funS L s).isOk = true) : (fs2 L s).isOk = true := fs2_okof h
theorem fs_ok (s : St) : ∀ n k, k ≤ n → (fsS L n s).1.isOk = true → (fsS L k s).1.isOk = true
  | 0, k, h, ho => by obtain rfl : k = 0 := by omega
                      exact ho
  | n + 1, k, h, ho => by
    rcases Nat.eq_or_lt_of_le h with rfl | q
    · exact ho
    · exact fs_ok s n k (by omega) (funS_okof ho)
/-! ### The bytes that were read -/
theorem ps_inv {f : FuncD} {n : Nat} (ha : a ≤ L.length) (hp : f.params = (psS L n (.ok a)).2) : ∀ k, k ≤ n → (psS L k (.ok a)).1.isOk = true → (psS L k (.ok a)).1 = .ok (a + 16 * k) ∧ a + 16 * k ≤ L.length ∧ encPs f k = (L.drop a).take (16 * k)
  | 0, _, _ => ⟨rfl, ha, by simp [encPs]⟩
  | k + 1, hk, ho => by
    have ho1 : (takeS L (psS L k (.ok a)).1 8).isOk = true := takeS_okof ho
    obtain ⟨i1, i2, i3⟩ := ps_inv ha hp k (by omega) (takeS_okof ho1)
    have ho2 : (takeS L (takeS L (psS L k (.ok a)).1 8) 8).isOk = true := ho
    rw [i1] at ho1 ho2
    obtain ⟨t1, l1⟩ := take_inv ho1
    rw [t1] at ho2
    obtain ⟨t2, l2⟩ := take_inv ho2
    refine ⟨?_, by omega, ?_⟩
    · rw [psS, i1, t1, t2]; congr 1
    · have e : nthS f.params k = ⟨i64 (natS L (.ok (a + 16 * k)) 8), i64 (natS L (.ok (a + 16 * k + 8)) 8)⟩ := by rw [hp, ps_at _ n k (by omega), i1, t1]
      rw [encPs, i3, e, encSp]
      simp only
      rw [num_inv l1, num_inv l2, show 16 * (k + 1) = 16 * k + (8 + 8) by omega, drop_more, drop_more (n := 8)]
theorem byte4 {l : List UInt8} (h : l.length = 4) : [byteB ((l.getD 0 0).toNat : Int), byteB ((l.getD 1 0).toNat : Int), byteB ((l.getD 2 0).toNat : Int), byteB ((l.getD 3 0).toNat : Int)] = l := by
  match l, h with
  | [x, y, z, u], _ => simp only [List.getD_cons_zero, List.getD_cons_succ]; rw [byteB_of rfl, byteB_of rfl, byteB_of rfl, byteB_of rfl]
theorem x_inv (h : (insS L (.ok a)).isOk = true) : insS L (.ok a) = .ok (a + 12) ∧ a + 12 ≤ L.length ∧ encX (insD L (.ok a)) = (L.drop a).take 12 := by
  have ho1 : (takeS L (.ok a) 4).isOk = true := takeS_okof h
  obtain ⟨t1, l1⟩ := take_inv ho1
  have ho2 : (takeS L (takeS L (.ok a) 4) 8).isOk = true := h
  rw [t1] at ho2
  obtain ⟨t2, l2⟩ := take_inv ho2
  refine ⟨by rw [insS, t1, t2], by omega, ?_⟩
  unfold encX insD
  simp only
  rw [byte4 (readL_len _ _ _), t1, num_inv l2, read_inv l1, show (12 : Nat) = 4 + 8 from rfl, drop_more]
theorem cs_inv {f : FuncD} {n : Nat} (ha : a ≤ L.length) (hp : f.code = (csS L n (.ok a)).2) : ∀ k, k ≤ n → (csS L k (.ok a)).1.isOk = true → (csS L k (.ok a)).1 = .ok (a + 12 * k) ∧ a + 12 * k ≤ L.length ∧ encC f k = (L.drop a).take (12 * k)
  | 0, _, _ => ⟨rfl, ha, by simp [encC]⟩
  | k + 1, hk, ho => by
    have ho1 : (insS L (csS L k (.ok a)).1).isOk = true := ho
    obtain ⟨i1, i2, i3⟩ := cs_inv ha hp k (by omega) (insS_okof ho1)
    rw [i1] at ho1
    obtain ⟨t1, l1, e1⟩ := x_inv ho1
    refine ⟨?_, by omega, ?_⟩
    · rw [csS, i1, t1]; congr 1
    · have e : nthX f.code k = insD L (.ok (a + 12 * k)) := by rw [hp, cs_at _ n k (by omega), i1]
      rw [encC, i3, e, e1, show 12 * (k + 1) = 12 * k + 12 by omega, drop_more]
theorem f_inv (ha : a ≤ L.length) (h : (funS L (.ok a)).isOk = true) : funS L (.ok a) = .ok (a + (encF (funD L (.ok a))).length) ∧ a + (encF (funD L (.ok a))).length ≤ L.length ∧ encF (funD L (.ok a)) = (L.drop a).take (encF (funD L (.ok a))).length := by
  have o8 : (fcs L (.ok a)).1.isOk = true := h
  have o7 : (fs7 L (.ok a)).isOk = true := csS_okof o8
  have o6 : (fs6 L (.ok a)).isOk = true := cntS_okof o7
  have o5 : (fs5 L (.ok a)).isOk = true := takeS_okof o6
  have o4 : (fps L (.ok a)).1.isOk = true := takeS_okof o5
  have o3 : (fs3 L (.ok a)).isOk = true := psS_okof o4
  have o2 : (fs2 L (.ok a)).isOk = true := cntS_okof o3
  have o1 : (fs1 L (.ok a)).isOk = true := takeS_okof o2
  obtain ⟨t1, l1, v1⟩ := cnt_inv (show (cntS L (.ok a) 1 16 8).isOk = true from o1)
  have u1 : fs1 L (.ok a) = .ok (a + 1) := t1
  rw [fs2, u1] at o2
  obtain ⟨t2, l2⟩ := take_inv o2
  have u2 : fs2 L (.ok a) = .ok (a + 1 + cntV L (.ok a) 1 16) := by rw [fs2, u1, t2]
  generalize hn1 : cntV L (.ok a) 1 16 = n1 at *
  rw [fs3, u2] at o3
  obtain ⟨t3, l3, v3⟩ := cnt_inv o3
  have u3 : fs3 L (.ok a) = .ok (a + 1 + n1 + 1) := by rw [fs3, u2, t3]
  have hfps : fps L (.ok a) = psS L (cntV L (.ok (a + 1 + n1)) 1 8) (.ok (a + 1 + n1 + 1)) := by rw [fps, u2, u3]
  generalize hn2 : cntV L (.ok (a + 1 + n1)) 1 8 = n2 at *
  rw [hfps] at o4
  obtain ⟨u4, l4, w4⟩ := ps_inv (f := funD L (.ok a)) (n := n2) l3 (by show (fps L (.ok a)).2 = _; rw [hfps]) n2 (Nat.le_refl _) o4
  rw [← hfps] at u4
  have hpl : (funD L (.ok a)).params.length = n2 := by show (fps L (.ok a)).2.length = n2; rw [hfps, psS_len]
  rw [fs5, u4] at o5
  obtain ⟨t5, l5⟩ := take_inv o5
  have u5 : fs5 L (.ok a) = .ok (a + 1 + n1 + 1 + 16 * n2 + 1) := by rw [fs5, u4, t5]
  rw [fs6, u5] at o6
  obtain ⟨t6, l6⟩ := take_inv o6
  have u6 : fs6 L (.ok a) = .ok (a + 1 + n1 + 1 + 16 * n2 + 1 + 2) := by rw [fs6, u5, t6]
  rw [fs7, u6] at o7
  obtain ⟨t7, l7, v7⟩ := cnt_inv o7
  have u7 : fs7 L (.ok a) = .ok (a + 1 + n1 + 1 + 16 * n2 + 1 + 2 + 2) := by rw [fs7, u6, t7]
  have hfcs : fcs L (.ok a) = csS L (cntV L (.ok (a + 1 + n1 + 1 + 16 * n2 + 1 + 2)) 2 1024) (.ok (a + 1 + n1 + 1 + 16 * n2 + 1 + 2 + 2)) := by rw [fcs, u6, u7]
  generalize hn3 : cntV L (.ok (a + 1 + n1 + 1 + 16 * n2 + 1 + 2)) 2 1024 = n3 at *
  rw [hfcs] at o8
  obtain ⟨u8, l8, w8⟩ := cs_inv (f := funD L (.ok a)) (n := n3) l7 (by show (fcs L (.ok a)).2 = _; rw [hfcs]) n3 (Nat.le_refl _) o8
  have hcl : (funD L (.ok a)).code.length = n3 := by show (fcs L (.ok a)).2.length = n3; rw [hfcs, csS_len]
  have hnm : (funD L (.ok a)).name.data.toList = (L.drop (a + 1)).take n1 := by
    show (fnm L (.ok a)).data.toList = _
    rw [fnm, u1, hn1, read_inv (by omega)]
  have hns : (funD L (.ok a)).name.size = n1 := by
    show (funD L (.ok a)).name.data.toList.length = n1
    rw [hnm, List.length_take, List.length_drop]; omega
  have hrg : (funD L (.ok a)).regs = natS L (.ok (a + 1 + n1 + 1 + 16 * n2)) 1 := by
    show i64 (natS L (fps L (.ok a)).1 1) = _
    have := natS_lt L (.ok (a + 1 + n1 + 1 + 16 * n2)) 1
    rw [u4, i64_small (by omega)]
  have hwd : (funD L (.ok a)).words = natS L (.ok (a + 1 + n1 + 1 + 16 * n2 + 1)) 2 := by
    show i64 (natS L (fs5 L (.ok a)) 2) = _
    have := natS_lt L (.ok (a + 1 + n1 + 1 + 16 * n2 + 1)) 2
    rw [u5, i64_small (by omega)]
  have hlen : (encF (funD L (.ok a))).length = 7 + n1 + 16 * n2 + 12 * n3 := by rw [encF_len, hns, hpl, hcl]
  refine ⟨?_, by rw [hlen]; omega, ?_⟩
  · rw [hlen, funS, hfcs, u8]; congr 1; omega
  · rw [hlen, show 7 + n1 + 16 * n2 + 12 * n3 = 1 + (n1 + (1 + (16 * n2 + (1 + (2 + (2 + 12 * n3)))))) by omega]
    rw [drop_more, drop_more, drop_more, drop_more, drop_more, drop_more, drop_more]
    unfold encF headF midF
    rw [hpl, hcl, w4, w8, hns, hnm, byte_inv (a := a) (by omega) (show ((n1 : Nat) : Int) = _ by rw [v1]), byte_inv (a := a + 1 + n1) (by omega) (show ((n2 : Nat) : Int) = _ by rw [v3]), byte_inv (by omega) hrg, num2_inv (by omega) hwd, num2_inv (by omega) (show ((n3 : Nat) : Int) = _ by rw [v7])]
    simp only [List.append_assoc]
theorem mk_inv : ∀ i, i ≤ 4 → (mkS L i).isOk = true → mkS L i = .ok i ∧ i ≤ L.length ∧ L.take i = ([83, 70, 84, 1] : List UInt8).take i
  | 0, _, _ => ⟨rfl, Nat.zero_le _, rfl⟩
  | i + 1, hi, h => by
    rw [mkS] at h
    split at h
    · rename_i hn
      obtain ⟨e, l, q⟩ := mk_inv i (by omega) (takeS_okof h)
      rw [e] at h hn
      obtain ⟨t, l1⟩ := take_inv h
      refine ⟨by rw [mkS, e, if_pos hn, t], l1, ?_⟩
      rw [take_more, q]
      have hb : [byteB ((markB i : Nat) : Int)] = (L.drop i).take 1 := byte_inv l1 (by rw [hn])
      rw [← hb]
      obtain rfl | rfl | rfl | rfl : i = 0 ∨ i = 1 ∨ i = 2 ∨ i = 3 := by omega
      all_goals rfl
    · exfalso
      cases hs : takeS L (mkS L i) 1 with
      | ok x => rw [hs] at h; cases h
      | bad x y => rw [hs] at h; cases h
theorem ths_inv {m : ModD} {n : Nat} (hp : m.ths = (thsS L n (.ok 5)).2) (h5 : 5 ≤ L.length) (h0 : encT m 0 = L.take 5) : ∀ k, k ≤ n → (thsS L k (.ok 5)).1.isOk = true → (thsS L k (.ok 5)).1 = .ok (5 + 8 * k) ∧ 5 + 8 * k ≤ L.length ∧ encT m k = L.take (5 + 8 * k)
  | 0, _, _ => ⟨rfl, h5, h0⟩
  | k + 1, hk, ho => by
    have ho1 : (takeS L (thsS L k (.ok 5)).1 8).isOk = true := ho
    obtain ⟨i1, i2, i3⟩ := ths_inv hp h5 h0 k (by omega) (takeS_okof ho1)
    rw [i1] at ho1
    obtain ⟨t1, l1⟩ := take_inv ho1
    refine ⟨?_, by omega, ?_⟩
    · rw [thsS, i1, t1]; congr 1
    · have e : nthI m.ths k = i64 (natS L (.ok (5 + 8 * k)) 8) := by rw [hp, ths_at _ n k (by omega), i1]
      rw [encT, i3, e, num_inv l1]
      exact (take_more (n := 5 + 8 * k) (k := 8)).symm
theorem fs_inv {m : ModD} {n : Nat} {p : Nat} (hp : m.funcs = (fsS L n (.ok p)).2) (hl : p ≤ L.length) (h0 : encFs m 0 = L.take p) : ∀ k, k ≤ n → (fsS L k (.ok p)).1.isOk = true → (fsS L k (.ok p)).1 = .ok (encFs m k).length ∧ (encFs m k).length ≤ L.length ∧ encFs m k = L.take (encFs m k).length
  | 0, _, _ => by
    have e : (encFs m 0).length = p := by rw [h0, List.length_take]; omega
    exact ⟨by rw [e]; rfl, by omega, by rw [e]; exact h0⟩
  | k + 1, hk, ho => by
    have ho1 : (funS L (fsS L k (.ok p)).1).isOk = true := ho
    obtain ⟨i1, i2, i3⟩ := fs_inv hp hl h0 k (by omega) (funS_okof ho1)
    rw [i1] at ho1
    obtain ⟨t1, l1, e1⟩ := f_inv i2 ho1
    have e : nthF m.funcs k = funD L (.ok (encFs m k).length) := by rw [hp, fs_at _ n k (by omega), i1]
    have hlen : (encFs m (k + 1)).length = (encFs m k).length + (encF (funD L (.ok (encFs m k).length))).length := by rw [encFs, List.length_append, e]
    refine ⟨by rw [fsS, i1, t1, hlen], by omega, ?_⟩
    rw [hlen, take_more, ← e1, ← i3, encFs, e]
/-- Bytes that are taken are those of the module that they are read as. -/
theorem m_inv {x : Nat} (h : decS L = .ok x) : encM (decM L) = L := by
  have hd : decM L = ⟨none, 0, (dths L).2, none, 0, (dfs L).2⟩ := by unfold decM; rw [h]
  unfold decS at h
  split at h
  · cases h
  cases hs : (dfs L).1 with
  | bad e p => rw [hs] at h; cases h
  | ok y =>
    rw [hs] at h
    simp only [restS] at h
    split at h
    · cases h
    rename_i hnl hny
    have o5 : (dfs L).1.isOk = true := by rw [hs]; rfl
    have o4 : (ds2 L).isOk = true := by
      have := fs_ok (L := L) (ds2 L) (dn2 L) 0 (Nat.zero_le _) o5
      exact this
    have o3 : (dths L).1.isOk = true := cntS_okof o4
    have o2 : (ds1 L).isOk = true := ths_ok (L := L) (ds1 L) (dn1 L) 0 (Nat.zero_le _) o3
    have o1 : (mkS L 4).isOk = true := cntS_okof o2
    obtain ⟨m4, l4, w4⟩ := mk_inv 4 (Nat.le_refl _) o1
    rw [ds1, m4] at o2
    obtain ⟨t1, l1, v1⟩ := cnt_inv o2
    have u1 : ds1 L = .ok 5 := by rw [ds1, m4, t1]
    have n1 : dn1 L = natS L (.ok 4) 1 := by rw [dn1, m4, v1]
    have hths : dths L = thsS L (dn1 L) (.ok 5) := by rw [dths, u1]
    have hlt : (decM L).ths.length = dn1 L := by rw [hd, hths]; exact thsS_len _ _ _
    rw [hths] at o3
    have h0 : encT (decM L) 0 = L.take 5 := by
      rw [encT, hlt, show (5 : Nat) = 4 + 1 from rfl, take_more, w4, ← byte_inv l1 (show ((dn1 L : Nat) : Int) = _ by rw [n1])]; rfl
    obtain ⟨u2, l2, w2⟩ := ths_inv (m := decM L) (n := dn1 L) (by rw [hd, hths]) l1 h0 (dn1 L) (Nat.le_refl _) o3
    rw [← hths] at u2
    rw [ds2, u2] at o4
    obtain ⟨t3, l3, v3⟩ := cnt_inv o4
    have u3 : ds2 L = .ok (5 + 8 * dn1 L + 1) := by rw [ds2, u2, t3]
    have n2 : dn2 L = natS L (.ok (5 + 8 * dn1 L)) 1 := by rw [dn2, u2, v3]
    have hfs : dfs L = fsS L (dn2 L) (.ok (5 + 8 * dn1 L + 1)) := by rw [dfs, u3]
    have hlf : (decM L).funcs.length = dn2 L := by rw [hd, hfs]; exact fsS_len _ _ _
    rw [hfs] at o5
    have h1 : encFs (decM L) 0 = L.take (5 + 8 * dn1 L + 1) := by
      rw [encFs, hlt, w2, hlf, byte_inv l3 (show ((dn2 L : Nat) : Int) = _ by rw [n2])]
      exact (take_more (n := 5 + 8 * dn1 L) (k := 1)).symm
    obtain ⟨u5, l5, w5⟩ := fs_inv (m := decM L) (n := dn2 L) (by rw [hd, hfs]) l3 h1 (dn2 L) (Nat.le_refl _) o5
    rw [← hfs, hs] at u5
    injection u5 with u5
    unfold encM
    rw [hlf, w5, List.take_of_length_le (by omega)]
end Go.Proofs.YtjacfeohpofhpaaDoor

/-
  Layer 11 (pack), in plain Lean: what the four laws want.
-/
namespace Go.Proofs.YtjacfeohpofhpaaDoor
open Go.RowKit
set_option linter.unusedSimpArgs false
set_option linter.unusedVariables false
variable {L : List UInt8} {a b : Nat} {s : St}
theorem fld_small {has : Bool} {r regs : Int} (h : fldErr has r regs = 0) (hr : regs ≤ 64) : 0 ≤ r ∧ r < 256 := by
  unfold fldErr at h
  split at h
  · split at h
    · simp at h
    · omega
  · split at h
    · omega
    · simp at h
theorem known_small {op : Int} (h : known op = true) : 0 ≤ op ∧ op < 256 := by
  unfold known at h
  simp only [Bool.and_eq_true, decide_eq_true_eq] at h
  omega
theorem xfits_of {m : ModD} {f : FuncD} {x : InsD} (h : insErr m f x = 0) (hr : f.regs ≤ 64) (wx : x.Wf) : XFits x := by
  have hk := (i_ok h).known
  have h3 : fldsErr (row x.op.toNat) x f.regs 3 = 0 := by
    unfold insErr at h
    rw [if_pos hk] at h
    split at h
    · assumption
    · rename_i q; exact absurd h q
  have h2 : fldsErr (row x.op.toNat) x f.regs 2 = 0 := by
    by_cases q : fldsErr (row x.op.toNat) x f.regs 2 = 0
    · exact q
    · have := fldsErr_stop (n := 3) (by omega) q
      omega
  have h1 : fldsErr (row x.op.toNat) x f.regs 1 = 0 := by
    by_cases q : fldsErr (row x.op.toNat) x f.regs 1 = 0
    · exact q
    · have := fldsErr_stop (n := 2) (by omega) q
      omega
  have g2 := (fldsErr_next h2).symm.trans h3
  have g1 := (fldsErr_next h1).symm.trans h2
  have g0 := (fldsErr_next (show fldsErr (row x.op.toNat) x f.regs 0 = 0 from rfl)).symm.trans h1
  exact ⟨known_small hk, fld_small g0 hr, fld_small g1 hr, fld_small g2 hr, wx.2.2.2.2⟩
theorem nthX_mem {l : List InsD} {k : Nat} (h : k < l.length) : nthX l k ∈ l := by simp [nthX, List.getD, h]
theorem nthS_mem {l : List Sp} {k : Nat} (h : k < l.length) : nthS l k ∈ l := by simp [nthS, List.getD, h]
theorem nthI_mem {l : List Int} {k : Nat} (h : k < l.length) : nthI l k ∈ l := by simp [nthI, List.getD, h]
theorem fits_of {m : ModD} (wm : m.Wf) (h : mayD m = ⟨0, 0, 0⟩) : MFits m := by
  have hs := small_of h
  refine ⟨hs.ths, fun k hk => wm.ths _ (nthI_mem hk), hs.funcs, fun k hk => ?_⟩
  have hf := f_ok h hk
  have wf := wm.funcs _ (by simp [nthF, List.getD, hk] : nthF m.funcs k ∈ m.funcs)
  have hw : 0 ≤ (nthF m.funcs k).words ∧ (nthF m.funcs k).words < 65536 := by
    have := (may_all h k hk).1
    unfold wholeE restErr at this
    repeat' split at this
    all_goals first | (simp at this; done) | omega
  refine ⟨hs.name k hk, hs.params k hk, fun j hj => wf.params _ (nthS_mem hj), ⟨by have := hf.regs.1; omega, by have := hf.regs.2.1; omega⟩, hw, hs.code k hk, fun j hj => xfits_of (hf.ins j hj) hf.regs.2.1 (wf.code _ (nthX_mem hj))⟩
theorem encM_len {m : ModD} (h : Small m) : (encM m).length ≤ 400000 := by
  have := encFs_len h m.funcs.length (Nat.le_refl _)
  have := h.funcs
  unfold encM; omega
theorem encM_pos (m : ModD) : 0 < (encM m).length := by
  obtain ⟨Y, e⟩ := encFs_pre m (Nat.zero_le m.funcs.length)
  unfold encM
  rw [e, List.length_append, encFs, List.length_append, encT_len]; omega
theorem atC_self (F : List UInt8) : AtC F 0 F := fun i hi _ => by rw [Nat.zero_add]
theorem atC_more (F M : List UInt8) : AtC (F ++ M) 0 F := fun i hi _ => by
  rw [Nat.zero_add, List.getD_eq_getElem?_getD, List.getElem?_append_left hi, List.getD_eq_getElem?_getD]
theorem atC_cut (F : List UInt8) (k : Nat) : AtC (F.take k) 0 F := fun i hi hl => by
  have : i < k := by rw [List.length_take] at hl; omega
  rw [Nat.zero_add, List.getD_eq_getElem?_getD, List.getElem?_take, if_pos this, List.getD_eq_getElem?_getD]
theorem nthF_bare (l : List FuncD) (k : Nat) : bare (nthF (l.map bare) k) = bare (nthF l k) := by
  simp only [nthF, List.getD_eq_getElem?_getD, List.getElem?_map]
  cases l[k]? <;> rfl
/-- A module's bytes are read as that module. -/
theorem dec_enc {m : ModD} (wm : m.Wf) (h : mayD m = ⟨0, 0, 0⟩) : decS (encM m) = .ok (encM m).length ∧ SameM m (decM (encM m)) := by
  obtain ⟨e1, e2⟩ := m_fwd (fits_of wm h) (atC_self (encM m))
  obtain ⟨e3, e4⟩ := e2 (Nat.le_refl _)
  have hl := encM_len (small_of h)
  have hd : decS (encM m) = .ok (encM m).length := by
    rw [decS, if_neg (by omega), e1, cutA, if_pos (Nat.le_refl _), restS, if_neg (by omega)]
  refine ⟨hd, ?_⟩
  have e : decM (encM m) = ⟨none, 0, (dths (encM m)).2, none, 0, (dfs (encM m)).2⟩ := by unfold decM; rw [hd]
  rw [e, e3, e4]
  exact ⟨rfl, by simp, fun k => nthF_bare _ _⟩
/-- Cut off. -/
theorem dec_cut {m : ModD} (wm : m.Wf) (h : mayD m = ⟨0, 0, 0⟩) {k : Nat} (hk : k < (encM m).length) : decS ((encM m).take k) = .bad 6 k := by
  obtain ⟨e1, e2⟩ := m_fwd (fits_of wm h) (atC_cut (encM m) k)
  have hl := encM_len (small_of h)
  have hlen : ((encM m).take k).length = k := by rw [List.length_take]; omega
  rw [decS, if_neg (by omega), e1, cutA, if_neg (by omega), hlen]; rfl
/-- Going on. -/
theorem dec_more {m : ModD} (wm : m.Wf) (h : mayD m = ⟨0, 0, 0⟩) {M : List UInt8} (hM : M ≠ []) (hl : (encM m).length + M.length ≤ 1048576) : decS (encM m ++ M) = .bad 7 (encM m).length := by
  obtain ⟨e1, e2⟩ := m_fwd (fits_of wm h) (atC_more (encM m) M)
  have hp : 0 < M.length := List.length_pos_iff.2 hM
  have hlen : (encM m ++ M).length = (encM m).length + M.length := List.length_append
  rw [decS, if_neg (by omega), e1, cutA, if_pos (by omega), restS, if_pos (by omega)]
/-! ### Where what is wrong stands -/
def StIn (L : List UInt8) : St → Prop
  | .ok a => a ≤ L.length
  | .bad e p => e ≠ 0 ∧ 0 ≤ p ∧ p ≤ L.length
theorem take_in (h : StIn L s) (n : Nat) : StIn L (takeS L s n) := by
  cases s with
  | ok a => simp only [takeS]; split <;> simp_all [StIn]
  | bad x y => exact h
theorem take_ge {x n : Nat} (h : takeS L s n = .ok x) : n ≤ x := by
  cases s with
  | ok a => simp only [takeS] at h; split at h
            · injection h; omega
            · cases h
  | bad x y => cases h
theorem cnt_in (h : StIn L s) (k m : Nat) {e : Int} (he : e ≠ 0) : StIn L (cntS L s k m e) := by
  have h2 := take_in h k
  unfold cntS
  split
  · rename_i x hx
    rw [hx] at h2
    have hg := take_ge hx
    have h3 : x ≤ L.length := h2
    split
    · exact ⟨he, by omega, by omega⟩
    · exact h3
  · rename_i x y hx
    rw [hx] at h2
    exact h2
theorem ths_in (h : StIn L s) : ∀ n, StIn L (thsS L n s).1
  | 0 => h
  | n + 1 => take_in (ths_in h n) 8
theorem ps_in (h : StIn L s) : ∀ n, StIn L (psS L n s).1
  | 0 => h
  | n + 1 => take_in (take_in (ps_in h n) 8) 8
theorem cs_in (h : StIn L s) : ∀ n, StIn L (csS L n s).1
  | 0 => h
  | n + 1 => take_in (take_in (cs_in h n) 4) 8
theorem fun_in (h : StIn L s) : StIn L (funS L s) :=
  cs_in (cnt_in (take_in (take_in (ps_in (cnt_in (take_in (cnt_in h 1 16 (by decide)) _) 1 8 (by decide)) _) 1) 2) 2 1024 (by decide)) _
theorem fs_in (h : StIn L s) : ∀ n, StIn L (fsS L n s).1
  | 0 => h
  | n + 1 => fun_in (fs_in h n)
theorem mk_in : ∀ i, StIn L (mkS L i)
  | 0 => Nat.zero_le _
  | i + 1 => by
    have h : StIn L (takeS L (mkS L i) 1) := take_in (mk_in i) 1
    rw [mkS]
    split
    · exact h
    · cases hs : takeS L (mkS L i) 1 with
      | ok x =>
        rw [hs] at h
        have h3 : x ≤ L.length := h
        have hi : (i : Int) < x := mk_gt i hs
        exact ⟨by decide, by omega, by omega⟩
      | bad x y => rw [hs] at h; exact h
  where
  mk_ge : ∀ i {x : Nat}, mkS L i = .ok x → i ≤ x
    | 0, x, h => Nat.zero_le _
    | i + 1, x, h => by
      rw [mkS] at h
      split at h
      · have := mk_gt i h; omega
      · cases hs : takeS L (mkS L i) 1 with
        | ok x => rw [hs] at h; cases h
        | bad x y => rw [hs] at h; cases h
  mk_gt : ∀ i {x : Nat}, takeS L (mkS L i) 1 = .ok x → (i : Int) < x := fun i x h => by
    cases hm : mkS L i with
    | ok y =>
      rw [hm] at h
      simp only [takeS] at h
      split at h
      · injection h with h; have := mk_ge i hm; omega
      · cases h
    | bad y z => rw [hm] at h; cases h
theorem dec_in : StIn L (decS L) := by
  unfold decS
  split
  · exact ⟨by decide, by omega, by omega⟩
  · have h : StIn L (dfs L).1 := fs_in (cnt_in (ths_in (cnt_in (mk_in 4) 1 16 (by decide)) _) 1 32 (by decide)) _
    cases hs : (dfs L).1 with
    | ok x =>
      rw [hs] at h
      have h3 : x ≤ L.length := h
      simp only [restS]
      split
      · exact ⟨by decide, by omega, by omega⟩
      · exact h3
    | bad x y => rw [hs] at h; exact h
theorem stE_ok : stE (decS L) = 0 ↔ (decS L).isOk = true := by
  have h := dec_in (L := L)
  cases hs : decS L with
  | ok x => simp [stE, St.isOk]
  | bad x y => rw [hs] at h; simp [stE, St.isOk]; exact h.1
theorem stP_in : 0 ≤ stP (decS L) ∧ stP (decS L) ≤ L.length := by
  have h := dec_in (L := L)
  cases hs : decS L with
  | ok x => simp [stP]
  | bad x y => rw [hs] at h; exact ⟨h.2.1, h.2.2⟩
theorem decM_bad (h : (decS L).isOk = false) : decM L = ⟨none, 0, [], none, 0, []⟩ := by
  unfold decM
  cases hs : decS L with
  | ok a => rw [hs] at h; cases h
  | bad x y => rfl
/-! ### What is read fits -/
theorem in64_i64 (n : Nat) : In64 (i64 n) := by
  unfold In64 i64
  rw [IntKind.wrap_i64]; omega
theorem in64_nat {n : Nat} (h : n < 65536) : In64 (n : Int) := by unfold In64; omega
theorem ths_wf (s : St) : ∀ n, ∀ z ∈ (thsS L n s).2, In64 z
  | 0, z, h => by simp [thsS] at h
  | n + 1, z, h => by
    simp only [thsS, List.mem_append, List.mem_singleton] at h
    rcases h with h | rfl
    · exact ths_wf s n z h
    · exact in64_i64 _
theorem ps_wf (s : St) : ∀ n, ∀ z ∈ (psS L n s).2, z.Wf
  | 0, z, h => by simp [psS] at h
  | n + 1, z, h => by
    simp only [psS, List.mem_append, List.mem_singleton] at h
    rcases h with h | rfl
    · exact ps_wf s n z h
    · exact ⟨in64_i64 _, in64_i64 _⟩
theorem in64_byte (b : UInt8) : In64 (b.toNat : Int) := by have := b.toNat_lt; exact in64_nat (by omega)
theorem cs_wf (s : St) : ∀ n, ∀ z ∈ (csS L n s).2, z.Wf
  | 0, z, h => by simp [csS] at h
  | n + 1, z, h => by
    simp only [csS, List.mem_append, List.mem_singleton] at h
    rcases h with h | rfl
    · exact cs_wf s n z h
    · exact ⟨in64_byte _, in64_byte _, in64_byte _, in64_byte _, in64_i64 _⟩
theorem fun_wf (s : St) : (funD L s).Wf := by
  have h1 := cntV_le L s 1 16
  have h2 := cntV_le L (fs2 L s) 1 8
  have h3 := cntV_le L (fs6 L s) 2 1024
  refine ⟨?_, ps_wf _ _, ?_, in64_i64 _, in64_i64 _, cs_wf _ _, ?_⟩
  · show (readL L (fs1 L s) (cntV L s 1 16)).length ≤ maxLen
    rw [readL_len]; unfold maxLen; omega
  · show (psS L (cntV L (fs2 L s) 1 8) (fs3 L s)).2.length * 16 ≤ _
    rw [psS_len]; omega
  · show (csS L (cntV L (fs6 L s) 2 1024) (fs7 L s)).2.length * 40 ≤ _
    rw [csS_len]; omega
theorem fs_wf (s : St) : ∀ n, ∀ z ∈ (fsS L n s).2, z.Wf
  | 0, z, h => by simp [fsS] at h
  | n + 1, z, h => by
    simp only [fsS, List.mem_append, List.mem_singleton] at h
    rcases h with h | rfl
    · exact fs_wf s n z h
    · exact fun_wf _
theorem decM_wf : (decM L).Wf := by
  unfold decM
  split
  · have h1 := cntV_le L (mkS L 4) 1 16
    have h2 := cntV_le L (dths L).1 1 32
    refine ⟨ths_wf _ _, ?_, fs_wf _ _, ?_⟩
    · show (thsS L (cntV L (mkS L 4) 1 16) (ds1 L)).2.length * 8 ≤ _
      rw [thsS_len]; omega
    · show (fsS L (cntV L (dths L).1 1 32) (ds2 L)).2.length * 80 ≤ _
      rw [fsS_len]; omega
  · exact ⟨fun z h => by simp at h, by simp, fun z h => by simp at h, by simp⟩
end Go.Proofs.YtjacfeohpofhpaaDoor
