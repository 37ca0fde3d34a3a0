/-
  Layer 2 (tree): the walk of exprs: an expression's parts are counted.
-/
import Derived.Test.YtdddppmfeoebgaaGreatDoorTurn
namespace Go.Proofs.YtdddppmfeoebgaaGreatDoor
open Go.RowKit
set_option linter.unusedSimpArgs false
set_option linter.unusedVariables false
set_option maxHeartbeats 2000000 in
theorem exprsG (N : Nat) : ∀ (l : List ExD) (A : Option Addr) (hd : Nat → Hd) (c n0 B g : Nat) (z : Int) (w : World), SizeOf.sizeOf l < N → l.length * 56 ≤ 140737488351232 → (∀ W, Turn B g w W → ∀ k, k < l.length → RowE W A l hd k) → (∀ k, k < l.length → ExsAt w B (hd k).a (nthE l k).args) → B ≤ g → n0 ≤ 4097 → z = (n0 : Int) → Whl w g 72 #[.int .i64 z] →
    Calls Tryz.prog 46 #[.pointer (some ⟨g, 0, none⟩), .slice A l.length c] w fun e w' => e = .returned (.tuple #[]) ∧ Whl w' g 72 #[.int .i64 ((min (n0 + cntEs l) 4097 : Nat) : Int)] ∧ Turn B g w w' := by
  induction N with
  | zero => intro l A hd c n0 B g z w hN; omega
  | succ N exprsG =>
    intro l A hd c n0 B g z w hN len rows kids hB hn hz hg
    subst hz
    have ih : ∀ (l : List ExD) (A : Option Addr) (c n0 B g : Nat) (z : Int) (w : World), SizeOf.sizeOf l < N → ExsAt w B A l → B ≤ g → n0 ≤ 4097 → z = (n0 : Int) → Whl w g 72 #[.int .i64 z] →
      Calls Tryz.prog 46 #[.pointer (some ⟨g, 0, none⟩), .slice A l.length c] w fun e w' => e = .returned (.tuple #[]) ∧ Whl w' g 72 #[.int .i64 ((min (n0 + cntEs l) 4097 : Nat) : Int)] ∧ Turn B g w w' := fun l A c n0 B g z w h1 h2 h3 h4 h5 h6 => by
        obtain ⟨hd, a, b, d, _⟩ := h2.open_ g
        exact exprsG l A hd c n0 B g z w h1 d a b h3 h4 h5 h6
    have IH := Lib.hid ih
    have HR := Lib.hid rows
    have HK := Lib.hid kids
    clear ih rows kids exprsG
    have hBw : B ≤ w.heap.size := by have := hg.lt; omega
    go_enter Tryz.func46, Tryz.ntmps46
    go_wp2
    go_loopw [8] (fun i W => ∃ k : Nat, k ≤ l.length ∧ i = .int .i64 k ∧ Whl W g 72 #[.int .i64 ((min (n0 + cntEs (l.take k)) 4097 : Nat) : Int)] ∧ Turn B g w W) (fun i _ => l.length - (intOf i).toNat)
    case atStart => exact ⟨0, Nat.zero_le _, rfl, by simpa [cntEs, Nat.min_eq_left hn] using hg, Turn.refl _ _ _⟩
    case round =>
      obtain ⟨k, hk, rfl, hgk, hgr⟩ := hrel
      have lg := hg.lt
      have l1 := hgr.size
      have f0 : wr.cell? ⟨g, 0, none⟩ = some (.int .i64 ((min (n0 + cntEs (l.take k)) 4097 : Nat) : Int)) := hgk.cell 0
      have z0 : wr.frozen? ⟨g, 0, none⟩ = false := hgk.frozen 0
      have lk := hgk.lt
      by_cases hlt : k < l.length
      · have hsn := Lib.hid (cntEs_snoc hlt)
        have hce := Lib.hid (cntE_eq (nthE l k))
        have hkid := Lib.hid ((HK.out k hlt).turn hgr)
        have hsz : SizeOf.sizeOf (nthE l k) < SizeOf.sizeOf l := getD_size ExD.zero hlt
        have hsa := args_size (nthE l k)
        obtain ⟨b, off, rfl, c0, c1, c2, c3⟩ := HR.out wr hgr k hlt
        revert f0 hgk
        generalize hq : min (n0 + cntEs (l.take k)) 4097 = m
        intro hgk f0
        have HQ := Lib.hid hq
        clear hq
        rcases Nat.lt_or_ge 4096 m with h6 | h6
        · have hd6 : decide ((4096 : Int) < (m : Int)) = true := by simp; omega
          have he : min (n0 + cntEs l) 4097 = m := by have := cntEs_cut l k; have := HQ.out; omega
          go_wp2_with (go_at_call 44; refine (fullP (m : Int) g _ (hgk.alloc _)).mono ?_; rintro e w' ⟨rfl, rfl⟩)
          refine ret_of ?_ rfl
          refine ⟨_, by simp [results, Tryz.results46, go_sem], rfl, by rw [he]; exact hgk.alloc _, hgr.alloc hBw _⟩
        · have hd6 : decide ((4096 : Int) < (m : Int)) = false := by simp; omega
          go_wp2_with (first | (go_at_call 44; refine (fullP (m : Int) g _ (hgk.alloc _)).mono ?_; rintro e w' ⟨rfl, rfl⟩) | (go_at_call 46; refine (IH.out _ _ _ (m + 1) B g _ _ (by omega) (hkid.out.turn (((Turn.refl B g _).put hB 0 _).alloc (by omega) _)) hB (by omega) (by omega) ((hgk.put 0 _).alloc _)).mono ?_; rintro e w1 ⟨rfl, hg1, hr1⟩))
          go_roundw
          case rel => exact ⟨k + 1, by omega, by go_num, by have e : min (m + 1 + cntEs (nthE l k).args) 4097 = min (n0 + cntEs (l.take (k + 1))) 4097 := (by have := hsn.out; have := hce.out; have := HQ.out; omega); rw [← e]; exact hg1, ((hgr.put hB 0 _).alloc hBw _).trans hr1⟩
          case measure => simp [intOf]; omega
      · obtain rfl : k = l.length := by omega
        rw [List.take_length] at hgk
        go_wp2
        refine end_of ?_ rfl
        exact ⟨_, by simp [results, Tryz.results46, go_sem], rfl, hgk, hgr⟩
theorem exprsP (l : List ExD) (A : Option Addr) (c n0 B g : Nat) (z : Int) (w : World) (h : ExsAt w B A l) (hB : B ≤ g) (hn : n0 ≤ 4097) (hz : z = (n0 : Int)) (hg : Whl w g 72 #[.int .i64 z]) :
    Calls Tryz.prog 46 #[.pointer (some ⟨g, 0, none⟩), .slice A l.length c] w fun e w' => e = .returned (.tuple #[]) ∧ Whl w' g 72 #[.int .i64 ((min (n0 + cntEs l) 4097 : Nat) : Int)] ∧ Turn B g w w' := by
  obtain ⟨hd, a, b, d, _⟩ := h.open_ g
  exact exprsG _ l A hd c n0 B g z w (Nat.lt_succ_self _) d a b hB hn hz hg
/-- .. of one expression that lies alone. -/
theorem exprs1 (x : ExD) (h : Hd) (b n0 B g : Nat) (t : TypeId) (z : Int) (w : World) (hx : Whl w b t #[.int .i64 x.kind, .int .i64 x.n, .string x.name, .slice h.a x.args.length h.c]) (hb : b ≠ g) (ht : t ≠ 5) (hk : ExsAt w B h.a x.args) (hB : B ≤ g) (hn : n0 ≤ 4097) (hz : z = (n0 : Int)) (hg : Whl w g 72 #[.int .i64 z]) :
    Calls Tryz.prog 46 #[.pointer (some ⟨g, 0, none⟩), .slice (some ⟨b, 0, none⟩) 1 1] w fun e w' => e = .returned (.tuple #[]) ∧ Whl w' g 72 #[.int .i64 ((min (n0 + cntE x) 4097 : Nat) : Int)] ∧ Turn B g w w' := by
  have e : cntEs [x] = cntE x := by rw [cntEs, cntEs]; rfl
  have := exprsG _ [x] (some ⟨b, 0, none⟩) (fun _ => h) 1 n0 B g z w (Nat.lt_succ_self _) (by simp) (fun W hW k hk => row_one (hW.keep _ _ _ hb ht hx) hk) (fun k hk' => by
    obtain rfl : k = 0 := by simpa using hk'
    exact hk) hB hn hz hg
  rw [e] at this
  exact this
end Go.Proofs.YtdddppmfeoebgaaGreatDoor
