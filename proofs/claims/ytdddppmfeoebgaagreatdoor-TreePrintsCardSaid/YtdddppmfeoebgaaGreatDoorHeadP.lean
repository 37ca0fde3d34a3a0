/-
  Layer 2 (tree): the walks of Contains over numbers and of head.
-/
import Derived.Test.YtdddppmfeoebgaaGreatDoorNodes
import Derived.Test.YtdddppmfeoebgaaGreatDoorScanE
namespace Go.Proofs.YtdddppmfeoebgaaGreatDoor
open Go.RowKit
set_option linter.unusedSimpArgs false
set_option linter.unusedVariables false
/-! ### Contains -/
def hasI (l : List Int) (v : Int) : Bool := l.any (· == v)
theorem hasI_take {l : List Int} {v : Int} {k : Nat} (h : k < l.length) : hasI (l.take (k + 1)) v = (hasI (l.take k) v || l.getD k 0 == v) := by
  unfold hasI
  rw [take_snoc 0 h, List.any_append]; simp
theorem hasI_cut (l : List Int) (v : Int) (k : Nat) : hasI l v = (hasI (l.take k) v || hasI (l.drop k) v) := by
  unfold hasI
  rw [← List.any_append, List.take_append_drop]
def IdxI (l : List Int) (v : Int) (w : World) (e : Ending) (w' : World) : Prop := ∃ z : Int, e = .returned (.int .i64 z) ∧ decide (0 ≤ z) = hasI l v ∧ w = w'
set_option maxHeartbeats 1000000 in
theorem indexP (l : List Int) (A : Option Addr) (c B : Nat) (v : Int) (w : World) (len : l.length * 8 ≤ 140737488351232) (rows : RowsAt w B A l.length 1 fun k _ => .int .i64 (l.getD k 0)) :
    Calls Tryz.prog 39 #[.slice A l.length c, .int .i64 v] w (IdxI l v w) := by
  have HR := Lib.hid rows
  clear rows
  go_enter Tryz.func39, Tryz.ntmps39
  go_wp2
  go_loop [8] (fun i => ∃ k : Nat, k ≤ l.length ∧ i = .int .i64 k ∧ Hid (hasI (l.take k) v = false)) (fun i => l.length - (intOf i).toNat)
  case atStart => exact ⟨0, Nat.zero_le _, rfl, Lib.hid (by simp [hasI])⟩
  case round =>
    obtain ⟨k, hk, rfl, HQ⟩ := hrel
    by_cases hlt : k < l.length
    · have hsn := Lib.hid (hasI_take (v := v) hlt)
      obtain ⟨b, off, rfl, hb, hc⟩ := HR.out (by omega)
      have c0 : w.cell? ⟨b, off + k, none⟩ = some (.int .i64 (nthI l k)) := by have := hc k hlt 0 (by omega); rw [Nat.mul_one, Nat.add_zero] at this; exact this
      clear hc
      cases hx : (v == nthI l k)
      · have HX := Lib.hid hx
        go_wp2
        go_round
        case rel => exact ⟨k + 1, by omega, by go_num, Lib.hid (by rw [hsn.out, HQ.out]; have := HX.out; simp only [beq_eq_false_iff_ne] at this; simpa [nthI] using fun h => this h.symm)⟩
        case measure => simp [intOf]; omega
      · have HX := Lib.hid hx
        go_wp2
        go_ret
        exact ⟨_, rfl, by rw [hasI_cut l v (k + 1), hsn.out]; have := HX.out; simp only [beq_iff_eq] at this; simp [this, nthI], rfl⟩
    · obtain rfl : k = l.length := by omega
      go_wp2
      go_ret
      exact ⟨_, rfl, by have := HQ.out; rw [List.take_length] at this; rw [this]; rfl, rfl⟩
theorem hasP (l : List Int) (A : Option Addr) (c B : Nat) (v : Int) (w : World) (len : l.length * 8 ≤ 140737488351232) (rows : RowsAt w B A l.length 1 fun k _ => .int .i64 (l.getD k 0)) :
    Calls Tryz.prog 21 #[.slice A l.length c, .int .i64 v] w fun e w' => e = .returned (.bool (hasI l v)) ∧ w = w' := by
  have HR := Lib.hid rows
  clear rows
  go_enter Tryz.func21, Tryz.ntmps21
  go_wp2_with (go_at_call 39; go_must (refine (indexP l A c B v _ len HR.out).mono ?_; rintro e w1 ⟨z, rfl, hz, rfl⟩))
  go_ret
  exact ⟨by rw [← hz]; rfl, rfl⟩
/-! ### head -/
abbrev fnC (f : FnD) (h : HdF) : Array Value := #[.string f.name, .slice h.params.a f.params.length h.params.c, .slice h.body.a f.body.length h.body.c]
def parE (x : PaD) : Int := if !nameE x.name then 8 else if x.lo == least || x.hi == least then 1 else 0
theorem pars_cons (x : PaD) (r : List PaD) : pars (x :: r) = orI (parE x) (pars r) := by
  rw [pars, orI, parE]
  repeat' split
  all_goals first | rfl | (exfalso; omega) | simp_all
theorem pars_snoc {l : List PaD} {k : Nat} (h : k < l.length) : pars (l.take (k + 1)) = orI (pars (l.take k)) (parE (nthP l k)) := fold_snoc orI_z orI_r orI_a (by rw [pars]) pars_cons _ h
theorem pars_cut (l : List PaD) (k : Nat) : pars l = orI (pars (l.take k)) (pars (l.drop k)) := fold_cut orI_z orI_a (by rw [pars]) pars_cons _ _
theorem pars_stop {l : List PaD} {k : Nat} (h : pars (l.take k) ≠ 0) : pars l = pars (l.take k) := by rw [pars_cut l k, orI, if_pos h]
theorem pars_bad {l : List PaD} {k : Nat} (h : k < l.length) (p : pars (l.take k) = 0) (q : parE (nthP l k) ≠ 0) : pars l = parE (nthP l k) := by
  have e : pars (l.take (k + 1)) = parE (nthP l k) := by rw [pars_snoc h, p, orI_z]
  rw [← e]; exact pars_stop (by rw [e]; exact q)
theorem RowsAt.pa {w : World} {B : Nat} {A : Option Addr} {l : List PaD} (rows : RowsAt w B A l.length 3 fun k => paV (nthP l k)) {k : Nat} (hk : k < l.length) :
    ∃ b off, A = some ⟨b, off, none⟩ ∧ w.cell? ⟨b, off + k * 3, none⟩ = some (.string (nthP l k).name) ∧ w.cell? ⟨b, off + k * 3 + 1, none⟩ = some (.int .i64 (nthP l k).lo) ∧ w.cell? ⟨b, off + k * 3 + 2, none⟩ = some (.int .i64 (nthP l k).hi) := by
  obtain ⟨b, off, e, hb, hc⟩ := rows (by omega)
  exact ⟨b, off, e, hc k hk 0 (by omega), hc k hk 1 (by omega), hc k hk 2 (by omega)⟩
set_option maxHeartbeats 4000000 in
theorem headP (f : FnD) (h : HdF) (B : Nat) (w : World) (hB : B ≤ w.heap.size) (hf : FnOk w B f h) :
    Calls Tryz.prog 22 #[.agg (fnC f h)] w fun e w' => e = .returned (.int .i64 (faceD f)) ∧ Below w.heap.size w w' := by
  have hn := hf.name
  have hpl := hf.plen
  have HF := Lib.hid hf
  clear hf
  cases nm : nameE f.name
  · have nm' : nameB (bytesOf f.name) = false := nm
    have HO := Lib.hid (show faceD f = 8 by rw [faceD, nm]; rfl)
    go_enter Tryz.func22, Tryz.ntmps22
    go_wp2_with (go_at_call 40; refine (nameP f.name hn _).mono ?_; rintro e w9 ⟨rfl, rfl⟩)
    go_ret
    exact ⟨by rw [HO.out]; rfl, (Below.refl _ _).alloc (Nat.le_refl _) _⟩
  have nm' : nameB (bytesOf f.name) = true := nm
  by_cases h8 : 8 < f.params.length
  · have h8' : decide ((8 : Int) < (f.params.length : Int)) = true := by simp; omega
    have HO := Lib.hid (show faceD f = 3 by rw [faceD, nm, if_neg (by simp), if_pos h8])
    clear h8
    go_enter Tryz.func22, Tryz.ntmps22
    go_wp2_with (go_at_call 40; refine (nameP f.name hn _).mono ?_; rintro e w9 ⟨rfl, rfl⟩)
    go_ret
    exact ⟨by rw [HO.out]; rfl, (Below.refl _ _).alloc (Nat.le_refl _) _⟩
  have h8' : decide ((8 : Int) < (f.params.length : Int)) = false := by simp; omega
  have HO := Lib.hid (show faceD f = pars f.params by rw [faceD, nm, if_neg (by simp), if_neg h8])
  clear h8
  go_enter Tryz.func22, Tryz.ntmps22
  go_wp2_with (go_at_call 40; refine (nameP f.name hn _).mono ?_; rintro e w9 ⟨rfl, rfl⟩)
  clear h8' nm nm'
  go_loopw [16] (fun i W => ∃ k : Nat, k ≤ f.params.length ∧ i = .int .i64 k ∧ Hid (pars (f.params.take k) = 0) ∧ Below w.heap.size w W) (fun i _ => f.params.length - (intOf i).toNat)
  case atStart => exact ⟨0, Nat.zero_le _, rfl, Lib.hid (by simp [pars]), (Below.refl _ _).alloc (Nat.le_refl _) _⟩
  case round =>
    obtain ⟨k, hk, rfl, HQ, hgr⟩ := hrel
    have l1 := hgr.size
    by_cases hlt : k < f.params.length
    · have hsn := Lib.hid (pars_snoc hlt)
      obtain ⟨b, off, hb, c0, c1, c2⟩ := (HF.out.params.below hgr hB).pa hlt
      have hpn := (HF.out.pwf k hlt).1
      rw [hb]
      cases nm : nameE (nthP f.params k).name
      · have nm' : nameB (bytesOf (nthP f.params k).name) = false := nm
        have HX := Lib.hid (show parE (nthP f.params k) = 8 by rw [parE, nm]; rfl)
        go_wp2_with (go_at_call 40; refine (nameP _ hpn _).mono ?_; rintro e w9 ⟨rfl, rfl⟩)
        go_ret
        exact ⟨by rw [HO.out, pars_bad hlt HQ.out (by rw [HX.out]; decide), HX.out]; rfl, below_alloc hgr _⟩
      · have nm' : nameB (bytesOf (nthP f.params k).name) = true := nm
        cases e1 : ((nthP f.params k).lo == least)
        · cases e2 : ((nthP f.params k).hi == least)
          · have HX := Lib.hid (show parE (nthP f.params k) = 0 by rw [parE, nm, e1, e2]; rfl)
            have e1' : ((nthP f.params k).lo == -9223372036854775808) = false := e1
            have e2' : ((nthP f.params k).hi == -9223372036854775808) = false := e2
            clear e1 e2 nm
            go_wp2_with (go_at_call 40; refine (nameP _ hpn _).mono ?_; rintro e w9 ⟨rfl, rfl⟩)
            go_roundw
            case rel => exact ⟨k + 1, by omega, by go_num, Lib.hid (by rw [hsn.out, HQ.out, HX.out]; rfl), below_alloc hgr _⟩
            case measure => simp [intOf]; omega
          · have HX := Lib.hid (show parE (nthP f.params k) = 1 by rw [parE, nm, e1, e2]; rfl)
            have e1' : ((nthP f.params k).lo == -9223372036854775808) = false := e1
            have e2' : ((nthP f.params k).hi == -9223372036854775808) = true := e2
            clear e1 e2 nm
            go_wp2_with (go_at_call 40; refine (nameP _ hpn _).mono ?_; rintro e w9 ⟨rfl, rfl⟩)
            go_ret
            exact ⟨by rw [HO.out, pars_bad hlt HQ.out (by rw [HX.out]; decide), HX.out]; rfl, below_alloc hgr _⟩
        · have HX := Lib.hid (show parE (nthP f.params k) = 1 by rw [parE, nm, e1]; rfl)
          have e1' : ((nthP f.params k).lo == -9223372036854775808) = true := e1
          clear e1 nm
          go_wp2_with (go_at_call 40; refine (nameP _ hpn _).mono ?_; rintro e w9 ⟨rfl, rfl⟩)
          go_ret
          exact ⟨by rw [HO.out, pars_bad hlt HQ.out (by rw [HX.out]; decide), HX.out]; rfl, below_alloc hgr _⟩
    · obtain rfl : k = f.params.length := by omega
      have he := HQ.out
      rw [List.take_length] at he
      have HE := Lib.hid he
      clear he
      go_wp2
      go_ret
      exact ⟨by rw [HO.out, HE.out]; rfl, hgr⟩
end Go.Proofs.YtdddppmfeoebgaaGreatDoor
