/-
  Layer 9 (code): Find, of the program and of the reference: the number of the first function of a name.
-/
import Derived.Test.YtjacfeohpofhpaaDoorMod
namespace Go.Proofs.YtjacfeohpofhpaaDoor
open Go.RowKit
set_option linter.unusedSimpArgs false
set_option linter.unusedVariables false

/-- Are two names the same? -/
abbrev eqN (s t : ByteArray) : Bool := s.toList == t.toList
/-- The first of the next n functions from number k on that has the name; -1, if none has. -/
def findFrom (fs : List FuncD) (s : ByteArray) : Nat → Nat → Int
  | _, 0 => -1
  | k, n + 1 => if eqN (nthF fs k).name s = true then (k : Int) else findFrom fs s (k + 1) n
def findD (fs : List FuncD) (s : ByteArray) : Int := findFrom fs s 0 fs.length
theorem findFrom_yes {fs : List FuncD} {s : ByteArray} {k : Nat} (hk : k < fs.length) (h : eqN (nthF fs k).name s = true) : findFrom fs s k (fs.length - k) = k := by
  obtain ⟨n, hn⟩ : ∃ n, fs.length - k = n + 1 := ⟨fs.length - k - 1, by omega⟩
  rw [hn, findFrom, if_pos h]
theorem findFrom_no {fs : List FuncD} {s : ByteArray} {k : Nat} (hk : k < fs.length) (h : eqN (nthF fs k).name s = false) : findFrom fs s k (fs.length - k) = findFrom fs s (k + 1) (fs.length - (k + 1)) := by
  obtain ⟨n, hn⟩ : ∃ n, fs.length - k = n + 1 := ⟨fs.length - k - 1, by omega⟩
  rw [hn, findFrom, if_neg (by rw [h]; decide), show fs.length - (k + 1) = n by omega]

set_option maxHeartbeats 400000 in
theorem find1P (f : FuncD) (s : ByteArray) (g : Nat) (w : World) (hg : w.cell? ⟨g, 0, none⟩ = some (.string s)) (hlt : g < w.heap.size) :
    Calls Tryd.prog 44 #[f.val, .pointer (some ⟨g, 0, none⟩)] w fun e w' => e = .returned (.bool (eqN f.name s)) ∧ Below w.heap.size w w' := by
  go_enter Tryd.func44, Tryd.ntmps44
  go_wp2
  go_ret
  exact ⟨rfl, (Below.refl _ _).alloc (Nat.le_refl _) _⟩

/-- The cells of a function of a row of functions. -/
theorem funcs_cells {w : World} {B : Nat} {A : Option Addr} {fs : List FuncD} (h : FuncsAt w B A fs) {k : Nat} (hk : k < fs.length) :
    ∃ b off, A = some ⟨b, off, none⟩ ∧ b < B ∧ w.cell? ⟨b, off + k * 5, none⟩ = some (.string (nthF fs k).name) ∧ w.cell? ⟨b, off + k * 5 + 1, none⟩ = some (.slice (nthF fs k).pa (nthF fs k).params.length (nthF fs k).pc) ∧
      w.cell? ⟨b, off + k * 5 + 2, none⟩ = some (.int .i64 (nthF fs k).regs) ∧ w.cell? ⟨b, off + k * 5 + 3, none⟩ = some (.int .i64 (nthF fs k).words) ∧ w.cell? ⟨b, off + k * 5 + 4, none⟩ = some (.slice (nthF fs k).ca (nthF fs k).code.length (nthF fs k).cc) := by
  obtain ⟨b, off, e, hb, hc⟩ := h (by omega)
  exact ⟨b, off, e, hb, hc k hk 0 (by omega), hc k hk 1 (by omega), hc k hk 2 (by omega), hc k hk 3 (by omega), hc k hk 4 (by omega)⟩

set_option maxHeartbeats 1000000 in
theorem indexFuncP (A : Option Addr) (c : Nat) (fs : List FuncD) (s : ByteArray) (g : Nat) (w : World) (hm : fs.length ≤ 9223372036854775806) (hf : FuncsAt w w.heap.size A fs) (hg : w.cell? ⟨g, 0, none⟩ = some (.string s)) (hlt : g < w.heap.size) :
    Calls Tryd.prog 43 #[.slice A fs.length c, .func (.func 44) #[] #[.pointer (some ⟨g, 0, none⟩)]] w fun e w' => e = .returned (.int .i64 (findD fs s)) ∧ Below w.heap.size w w' := by
  have HF := Lib.hid hf; clear hf
  go_enter Tryd.func43, Tryd.ntmps43
  go_wp2
  go_loopw [8] (fun i wr => ∃ k : Nat, k ≤ fs.length ∧ i = .int .i64 k ∧ Below w.heap.size w wr ∧ findD fs s = findFrom fs s k (fs.length - k)) (fun i _ => fs.length - (intOf i).toNat)
  case atStart => exact ⟨0, Nat.zero_le _, rfl, Below.refl _ _, rfl⟩
  case round =>
    obtain ⟨k, hk, rfl, hB, hfd⟩ := hrel
    have hD := Lib.hid hfd; clear hfd
    by_cases hlt2 : k < fs.length
    · obtain ⟨b, off, rfl, hb, e0, e1, e2, e3, e4⟩ := funcs_cells (HF.out.below hB (Nat.le_refl _)) hlt2
      have hg2 : wr.cell? ⟨g, 0, none⟩ = some (.string s) := (hB.cell (p := ⟨g, 0, none⟩) hlt).trans hg
      have hs := hB.size
      cases hn : eqN (nthF fs k).name s
      all_goals go_wp2_with (go_at_call 44; refine (find1P (nthF fs k) s g _ hg2 (by omega)).mono ?_; rintro e w1 ⟨rfl, hb1⟩)
      · go_roundw
        case rel => exact ⟨k + 1, by omega, by go_num, below_step hB hb1, by rw [hD.out, findFrom_no hlt2 hn]⟩
        case measure => simp [intOf]; omega
      · go_ret
        exact ⟨by rw [hD.out, findFrom_yes hlt2 hn]; rfl, below_step hB hb1⟩
    · obtain rfl : k = fs.length := by omega
      go_wp2
      go_ret
      exact ⟨by rw [hD.out]; simp [findFrom], hB⟩

set_option maxHeartbeats 400000 in
theorem findP (m : ModD) (s : ByteArray) (w : World) (hm : m.funcs.length ≤ 9223372036854775806) (hf : ModOk w w.heap.size m) :
    Calls Tryd.prog 36 #[m.val, .string s] w fun e w' => e = .returned (.int .i64 (findD m.funcs s)) ∧ Below w.heap.size w w' := by
  go_enter Tryd.func36, Tryd.ntmps36
  go_wp2_with (go_at_call 43; refine (indexFuncP _ _ m.funcs s (w.heap.size + 1) _ hm ?_ ?_ ?_).mono ?_; (· exact ((hf.funcs.below (below_alloc (below_alloc (Below.refl _ _) _) _) (Nat.le_refl _)).more (by simp; omega))); (· go_simp); (· simp); rintro e w1 ⟨rfl, hb1⟩)
  go_ret
  exact ⟨rfl, below_step (below_alloc (below_alloc (Below.refl _ _) _) _) hb1⟩
end Go.Proofs.YtjacfeohpofhpaaDoor
