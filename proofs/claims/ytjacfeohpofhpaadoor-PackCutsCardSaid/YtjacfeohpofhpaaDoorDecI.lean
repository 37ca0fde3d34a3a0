/-
  Layer 11 (pack): the walk of the reader's instruction.
-/
import Derived.Test.YtjacfeohpofhpaaDoorDecN
import Derived.Test.YtjacfeohpofhpaaDoorEncR
namespace Go.Proofs.YtjacfeohpofhpaaDoor
open Go.RowKit
set_option linter.unusedSimpArgs false
set_option linter.unusedVariables false
variable {T : TypeId} {g : Nat} {v : Value} {s : St} {w : World} {L : List UInt8}
def insS (L : List UInt8) (s : St) : St := takeS L (takeS L s 4) 8
def insD (L : List UInt8) (s : St) : InsD :=
  ⟨((readL L s 4).getD 0 0).toNat, ((readL L s 4).getD 1 0).toNat, ((readL L s 4).getD 2 0).toNat, ((readL L s 4).getD 3 0).toNat, i64 (natS L (takeS L s 4) 8)⟩
theorem RowB.four {w : World} {B g : Nat} {u : Value} {l : List UInt8} (h : RowB w B g u l) (hl : l.length = 4) : ∃ b off c, u = .slice (some ⟨b, off, none⟩) 4 c ∧ b < B ∧ b ≠ g ∧
    w.cell? ⟨b, off, none⟩ = some (u8V (l.getD 0 0)) ∧ w.cell? ⟨b, off + 1, none⟩ = some (u8V (l.getD 1 0)) ∧ w.cell? ⟨b, off + 2, none⟩ = some (u8V (l.getD 2 0)) ∧ w.cell? ⟨b, off + 3, none⟩ = some (u8V (l.getD 3 0)) := by
  obtain ⟨A, c, rfl, hc, hrow⟩ := h.row
  obtain ⟨b, off, rfl, hb, hne, hcell⟩ := hrow (by intro e; subst e; simp at hl)
  rw [hl] at hcell
  exact ⟨b, off, c, by rw [hl], hb, hne, hcell 0 (by omega), hcell 1 (by omega), hcell 2 (by omega), hcell 3 (by omega)⟩
theorem four_grown {w w' : World} {g b off : Nat} {a0 a1 a2 a3 : Value} (hg : w.grownBy w' (some g)) (hb : b < w.heap.size) (hne : b ≠ g)
    (h : w.cell? ⟨b, off, none⟩ = some a0 ∧ w.cell? ⟨b, off + 1, none⟩ = some a1 ∧ w.cell? ⟨b, off + 2, none⟩ = some a2 ∧ w.cell? ⟨b, off + 3, none⟩ = some a3) :
    w'.cell? ⟨b, off, none⟩ = some a0 ∧ w'.cell? ⟨b, off + 1, none⟩ = some a1 ∧ w'.cell? ⟨b, off + 2, none⟩ = some a2 ∧ w'.cell? ⟨b, off + 3, none⟩ = some a3 := by
  have hk := hg.block b hb (fun e => hne (by injection e))
  refine ⟨(World.cell?_of_block hk).trans h.1, (World.cell?_of_block hk).trans h.2.1, (World.cell?_of_block hk).trans h.2.2.1, (World.cell?_of_block hk).trans h.2.2.2⟩
theorem Rd.alloc (h : Rd T w g v s) (o : Obj) : Rd T (w.alloc o) g v s := by
  obtain ⟨a, e, p, hW, hS⟩ := h
  exact ⟨a, e, p, hW.alloc _, hS⟩
theorem Rd.lt (h : Rd T w g v s) : g < w.heap.size := by
  obtain ⟨a, e, p, hW, hS⟩ := h
  exact hW.lt
theorem ne_some {a b : Nat} (h : a < b) : some b ≠ some a := fun e => by injection e; omega
theorem Rd.drew9 (h : Rd T w g v s) : Rd T w.drew g v s := h
theorem whl_ne {w : World} {k b off : Nat} {t : TypeId} {cs : Array Value} {x : Value} (h : Whl w k t cs) (hc : w.cell? ⟨b, off, none⟩ = some x) (hx : x ∉ cs.toList) : b ≠ k := by
  intro e
  subst e
  rw [h.cell off] at hc
  exact hx (by rw [← Array.getElem?_toList] at hc; exact List.mem_of_getElem? hc)
theorem four_set {w : World} {k b i off : Nat} {a0 a1 a2 a3 x : Value} (hne : b ≠ k)
    (h : w.cell? ⟨b, off, none⟩ = some a0 ∧ w.cell? ⟨b, off + 1, none⟩ = some a1 ∧ w.cell? ⟨b, off + 2, none⟩ = some a2 ∧ w.cell? ⟨b, off + 3, none⟩ = some a3) :
    (w.setCell ⟨k, i, none⟩ x).cell? ⟨b, off, none⟩ = some a0 ∧ (w.setCell ⟨k, i, none⟩ x).cell? ⟨b, off + 1, none⟩ = some a1 ∧ (w.setCell ⟨k, i, none⟩ x).cell? ⟨b, off + 2, none⟩ = some a2 ∧ (w.setCell ⟨k, i, none⟩ x).cell? ⟨b, off + 3, none⟩ = some a3 :=
  four_grown (w := w) (w' := w.setCell ⟨k, i, none⟩ x) (g := k) (Lib.grownBy_setB (Lib.Hx.grownBy_refl w _) i x) (by
    have := h.1
    rcases Nat.lt_or_ge b w.heap.size with q | q
    · exact q
    · simp [World.cell?, Array.getElem?_eq_none q] at this) hne h
theorem set_new {w w' : World} {g : Nat} (h : w.grownBy w' (some g)) (i : Nat) (x : Value) : w.grownBy (w'.setCell ⟨w.heap.size, i, none⟩ x) (some g) :=
  ⟨h.os, h.tape, h.output, by simpa [World.setCell] using h.size, fun k hk hne => (Below.heap_setCell _ _ _ _ (by simp; omega)).trans (h.block k hk hne)⟩
theorem Rd.far (h : Rd T w g v s) {k : Nat} (hk : g < k) (i : Nat) (x : Value) : Rd T (w.setCell ⟨k, i, none⟩ x) g v s := by
  obtain ⟨a, e, p, hW, hS⟩ := h
  exact ⟨a, e, p, hW.far (by simp; omega) _, hS⟩
abbrev ins0 : Array Value := #[.int .i64 0, .int .i64 0, .int .i64 0, .int .i64 0, .int .i64 0]
theorem RowB.alloc {B : Nat} {l : List UInt8} (h : RowB w B g v l) (hB : B ≤ w.heap.size) (o : Obj) : RowB (w.alloc o) B g v l := h.grown hB (World.grownBy_alloc w o _)
theorem RowB.drew {B : Nat} {l : List UInt8} (h : RowB w B g v l) : RowB w.drew B g v l := ⟨h.len, h.row⟩
set_option maxHeartbeats 4000000 in
theorem instructionP (B : Nat) (hB : B ≤ w.heap.size) (hv : RowB w B g v L) (h : Rd T w g v s) : Calls Tryd.prog 34 #[.pointer (some ⟨g, 0, none⟩)] w fun x w' =>
    x = .returned (insD L s).val ∧ Rd T w' g v (insS L s) ∧ w.grownBy w' (some g) := by
  have HV := Lib.hid hv
  have HR := Lib.hid h
  have lg := h.lt
  have g0 : w.grownBy (w.alloc (.cells ins0 52)) (some g) := World.grownBy_alloc w _ _
  have hI := Whl.new w 52 ins0
  clear hv h
  unfold insD insS
  generalize h0 : (readL L s 4).getD 0 0 = d0
  generalize h1 : (readL L s 4).getD 1 0 = d1
  generalize h2 : (readL L s 4).getD 2 0 = d2
  generalize h3 : (readL L s 4).getD 3 0 = d3
  have E0 := Lib.hid h0
  have E1 := Lib.hid h1
  have E2 := Lib.hid h2
  have E3 := Lib.hid h3
  clear h0 h1 h2 h3
  go_enter Tryd.func34, Tryd.ntmps34
  go_wp2_with (go_at_call 21; with_reducible refine (take4P B (Nat.le_trans hB g0.size) (HV.out.alloc hB _) (HR.out.alloc _)).mono ?_; rintro e w1 ⟨u, rfl, hu, hR1, hg1⟩; obtain ⟨b, off, c, rfl, hb, hne, hcell⟩ := hu.four (readL_len _ _ _); have hI1 := hI.grown hg1 (ne_some lg); have hV1 := ((HV.out.alloc hB _).grown (Nat.le_trans hB g0.size) hg1); have hB1 := Nat.le_trans (Nat.le_trans hB g0.size) hg1.size)
  rw [E0.out, E1.out, E2.out, E3.out] at hcell
  have e0 := d0.toNat_lt
  have e1 := d1.toNat_lt
  have e2 := d2.toNat_lt
  have e3 := d3.toNat_lt
  have f0 : IntKind.i64.wrap (d0.toNat : Int) = (d0.toNat : Int) := by rw [IntKind.wrap_i64]; omega
  have f1 : IntKind.i64.wrap (d1.toNat : Int) = (d1.toNat : Int) := by rw [IntKind.wrap_i64]; omega
  have f2 : IntKind.i64.wrap (d2.toNat : Int) = (d2.toNat : Int) := by rw [IntKind.wrap_i64]; omega
  have f3 : IntKind.i64.wrap (d3.toNat : Int) = (d3.toNat : Int) := by rw [IntKind.wrap_i64]; omega
  have hbne : b ≠ w.heap.size := whl_ne hI1 hcell.1 (by simp [u8V])
  have HS0 := hcell
  go_region_held_law (fun W' => W'.cell? ⟨b, off, none⟩ = some (u8V d0) ∧ W'.cell? ⟨b, off + 1, none⟩ = some (u8V d1) ∧ W'.cell? ⟨b, off + 2, none⟩ = some (u8V d2) ∧ W'.cell? ⟨b, off + 3, none⟩ = some (u8V d3))
    (first | exact hcell | exact four_grown hg7 hb hne hcell | exact four_set hbne (four_set hbne (four_set hbne (four_set hbne (four_set hbne (four_grown hg7 hb hne hcell))))))
    (first | (refine step_call2 rfl _ _ _ _ Tryd.func24 (by kernel_rfl) rfl rfl (number8P (w := w1.drew) B hB1 hV1.drew hR1.drew) ?_
              rintro v7 w7 ⟨hR7, hg7, rfl⟩
              have hI7 := hI1.drew.grown hg7 (ne_some lg)
              have l7 := hI7.lt
              obtain ⟨x0, x1, x2, x3, x4⟩ := ins_cells hI7
              have z0 := hI7.frozen 0
              have z1 := hI7.frozen 1
              have z2 := hI7.frozen 2
              have z3 := hI7.frozen 3
              have z4 := hI7.frozen 4))
  all_goals go_wp2
  all_goals
    have hfin : ∀ u0 u1 u2 u3 u4 : Value, w.grownBy (((((w7.setCell ⟨w.heap.size, 0, none⟩ u0).setCell ⟨w.heap.size, 1, none⟩ u1).setCell ⟨w.heap.size, 2, none⟩ u2).setCell ⟨w.heap.size, 3, none⟩ u3).setCell ⟨w.heap.size, 4, none⟩ u4) (some g) := fun u0 u1 u2 u3 u4 => set_new (set_new (set_new (set_new (set_new (Lib.grownBy_trans (Lib.grownBy_trans g0 (Lib.Hx.grownBy_drew hg1)) hg7) _ _) _ _) _ _) _ _) _ _
    have hrd : ∀ u0 u1 u2 u3 u4 : Value, Rd T (((((w7.setCell ⟨w.heap.size, 0, none⟩ u0).setCell ⟨w.heap.size, 1, none⟩ u1).setCell ⟨w.heap.size, 2, none⟩ u2).setCell ⟨w.heap.size, 3, none⟩ u3).setCell ⟨w.heap.size, 4, none⟩ u4) g v (takeS L (takeS L s 4) 8) := fun u0 u1 u2 u3 u4 => ((((hR7.far lg _ _).far lg _ _).far lg _ _).far lg _ _).far lg _ _
    refine ret_of ?_ rfl
    refine ⟨(⟨d0.toNat, d1.toNat, d2.toNat, d3.toNat, i64 (natS L (takeS L s 4) 8)⟩ : InsD).val, ?_, rfl, hrd _ _ _ _ _, hfin _ _ _ _ _⟩
    simp [results, Tryd.results34, go_sem, x0, x1, x2, x3, x4, z0, z1, z2, z3, z4, l7]
end Go.Proofs.YtjacfeohpofhpaaDoor
