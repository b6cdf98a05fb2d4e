/-
  Entry: the reference's reader: an input.
-/
import Derived.Test.YtmhgkkfeohaojaaZA
namespace Go.Proofs.Ytmhgkkfeohaojaa
set_option linter.unusedVariables false
open Go.ChangeShapes Go.WideShapes Go.ChangeAt Go.RowKit

set_option linter.unusedSimpArgs false
/-- An input in a block of its own. -/
structure IC (w : World) (b : Nat) (x y z : Int) : Prop where
  c0 : w.cell? ⟨b, 0, none⟩ = some (.int .i8 x)
  c1 : w.cell? ⟨b, 1, none⟩ = some (.int .i8 y)
  c2 : w.cell? ⟨b, 2, none⟩ = some (.int .u8 z)
  f0 : w.frozen? ⟨b, 0, none⟩ = false
  f1 : w.frozen? ⟨b, 1, none⟩ = false
  f2 : w.frozen? ⟨b, 2, none⟩ = false
theorem IC.block {w w' : World} {b : Nat} {x y z : Int} (h : IC w b x y z) (k : w'.heap[b]? = w.heap[b]?) : IC w' b x y z :=
  ⟨(World.cell?_of_block k).trans h.c0, (World.cell?_of_block k).trans h.c1, (World.cell?_of_block k).trans h.c2, (World.frozen?_of_block k).trans h.f0, (World.frozen?_of_block k).trans h.f1, (World.frozen?_of_block k).trans h.f2⟩
theorem IC.new (w : World) (x y z : Int) (T : TypeId) : IC (w.alloc (Obj.cells #[.int .i8 x, .int .i8 y, .int .u8 z] T)) w.heap.size x y z := by
  constructor
  · rw [World.cell?_alloc_new]; rfl
  · rw [World.cell?_alloc_new]; rfl
  · rw [World.cell?_alloc_new]; rfl
  · rw [World.frozen?_alloc_new]
  · rw [World.frozen?_alloc_new]
  · rw [World.frozen?_alloc_new]
theorem IC.lt {w : World} {b : Nat} {x y z : Int} (h : IC w b x y z) : b < w.heap.size := block_of_cell h.c0
theorem IC.set1 {w : World} {b : Nat} {x y z : Int} (h : IC w b x y z) (y' : Int) : IC (w.setCell ⟨b, 1, none⟩ (.int .i8 y')) b x y' z :=
  ⟨(World.cell?_setCell_other _ _ _ _ (by simp)).trans h.c0, World.cell?_setCell_same _ _ _ h.c1, (World.cell?_setCell_other _ _ _ _ (by simp)).trans h.c2, by rw [World.frozen?_setCell]; exact h.f0, by rw [World.frozen?_setCell]; exact h.f1, by rw [World.frozen?_setCell]; exact h.f2⟩
theorem IC.set2 {w : World} {b : Nat} {x y z : Int} (h : IC w b x y z) (z' : Int) : IC (w.setCell ⟨b, 2, none⟩ (.int .u8 z')) b x y z' :=
  ⟨(World.cell?_setCell_other _ _ _ _ (by simp)).trans h.c0, (World.cell?_setCell_other _ _ _ _ (by simp)).trans h.c1, World.cell?_setCell_same _ _ _ h.c2, by rw [World.frozen?_setCell]; exact h.f0, by rw [World.frozen?_setCell]; exact h.f1, by rw [World.frozen?_setCell]; exact h.f2⟩
theorem IC.set0 {w : World} {b : Nat} {x y z : Int} (h : IC w b x y z) (x' : Int) : IC (w.setCell ⟨b, 0, none⟩ (.int .i8 x')) b x' y z :=
  ⟨World.cell?_setCell_same _ _ _ h.c0, (World.cell?_setCell_other _ _ _ _ (by simp)).trans h.c1, (World.cell?_setCell_other _ _ _ _ (by simp)).trans h.c2, by rw [World.frozen?_setCell]; exact h.f0, by rw [World.frozen?_setCell]; exact h.f1, by rw [World.frozen?_setCell]; exact h.f2⟩
theorem Rd.setNew {R b j : Nat} {w w' : World} {u : Value} (h : Rd R w w') (hb : w.heap.size ≤ b) : Rd R w (w'.setCell ⟨b, j, none⟩ u) :=
  ⟨h.os, h.tape, h.output, by have := h.size; simpa [World.setCell] using this, fun k hk hr => (Below.heap_setCell _ _ _ _ (by show k ≠ b; omega)).trans (h.block k hk hr)⟩
theorem setCell_block {w : World} {b j k : Nat} {u : Value} (hk : k ≠ b) : (w.setCell ⟨b, j, none⟩ u).heap[k]? = w.heap[k]? := Below.heap_setCell _ _ _ _ hk
theorem results_rin (tmps : Array Value) (w : World) (b : Nat) (h2 : tmps.getD 2 undef = .pointer (some ⟨b, 0, none⟩)) {x y z : Int} (h : IC w b x y z) : (results Try.f30 tmps).run Try.prog w = .ok (.agg #[.int .i8 x, .int .i8 y, .int .u8 z]) w := by
  have c0 := h.c0
  have c1 := h.c1
  have c2 := h.c2
  have h2' : tmps[2]?.getD undef = .pointer (some ⟨b, 0, none⟩) := by simpa using h2
  have hl : (loadVar 25 ⟨b, 0, none⟩).run Try.prog w = .ok (.agg #[.int .i8 x, .int .i8 y, .int .u8 z]) w := by simp [go_sem, c0, c1, c2]; try go_simp
  simp [results, Try.results30, h2', asAddr, hl]
set_option maxHeartbeats 1000000 in
theorem rInput_trk (R : Nat) (bs l : List Int) (bad : Bool) (p : Nat) (hby : ByteL bs) (w : World) (h : RG w R l bad) (ht : Trk bs p l bad) (hT : bs.length < p + 3 → ¬ OkG bs) :
    Calls Try.prog 30 #[.pointer (some ⟨R, 0, none⟩)] w fun e w' => ∃ x y z l' bad', e = .returned (.agg #[.int .i8 x, .int .i8 y, .int .u8 z]) ∧ RG w' R l' bad' ∧ Trk bs (p + 3) l' bad' ∧ (bad' = false → bad = false ∧ x = sgn (zz bs p) ∧ y = sgn (zz bs (p + 1)) ∧ z = zz bs (p + 2)) ∧ Rd R w w' := by
  have hlt := h.lt
  have HR := Lib.hid (h.block (Below.heap_alloc w (Obj.cells #[.int .i8 0, .int .i8 0, .int .u8 0] 25) R hlt))
  have HI := Lib.hid (IC.new w 0 0 0 25)
  have HD : Hid (Rd R w (w.alloc (Obj.cells #[.int .i8 0, .int .i8 0, .int .u8 0] 25))) := Lib.hid (Below.rd ((Below.refl w.heap.size w).alloc (Nat.le_refl _) _) (Nat.le_refl _))
  go_enter Try.func30, Try.ntmps30
  go_wp2_with fail
  generalize w.alloc (Obj.cells #[.int .i8 0, .int .i8 0, .int .u8 0] 25) = w1 at *
  refine (rNum1_trk R bs l bad p w1 HR.out ht (fun h => hT (by omega))).mono ?_
  rintro e w2 ⟨v0, l0, b0, rfl, hr, ht0, hg0, -, hd⟩
  have e1 : IntKind.i8.wrap v0 = IntKind.i8.wrap v0 := rfl
  replace HI := Lib.hid (HI.out.block (hd.block _ HI.out.lt (by omega)))
  have HI2 := Lib.hid HI.out.lt
  replace HD := Lib.hid (HD.out.trans hd)
  have hl2 := hr.lt
  have HJ := Lib.hid (IC.new w2 (IntKind.i8.wrap v0) 0 0 25)
  have bA := (Below.refl w2.heap.size w2).alloc (Nat.le_refl _) (Obj.cells #[.int .i8 (IntKind.i8.wrap v0), .int .i8 0, .int .u8 0] 25)
  replace HI := Lib.hid (HI.out.block (bA.block _ HI.out.lt))
  replace HR := Lib.hid (hr.block (bA.block _ hr.lt))
  replace HD := Lib.hid (HD.out.trans (Below.rd bA (Nat.le_refl _)))
  have hs2 := HI.out.lt
  clear hr hd bA ht e1
  go_wp2_with fail
  have hsz : w.heap.size < (w2.alloc (Obj.cells #[.int .i8 (IntKind.i8.wrap v0), .int .i8 0, .int .u8 0] 25)).heap.size := hs2
  have hT3 : w2.heap.size < (w2.alloc (Obj.cells #[.int .i8 (IntKind.i8.wrap v0), .int .i8 0, .int .u8 0] 25)).heap.size := by simp
  have hw2 : w.heap.size < w2.heap.size := by
    have := HI2.out
    omega
  generalize w2.alloc (Obj.cells #[.int .i8 (IntKind.i8.wrap v0), .int .i8 0, .int .u8 0] 25) = w3 at *
  generalize w2.heap.size = T3 at *
  refine (rNum1_trk R bs l0 b0 (p + 1) w3 HR.out ht0 (fun h => hT (by omega))).mono ?_
  rintro e w4 ⟨v1, l1, b1, rfl, hr, ht1, hg1, -, hd⟩
  replace HI := Lib.hid (HI.out.block (hd.block _ HI.out.lt (by omega)))
  replace HJ := Lib.hid (HJ.out.block (hd.block _ HJ.out.lt (by omega)))
  replace HD := Lib.hid ((HD.out.trans hd).setNew (b := T3) (j := 1) (u := .int .i8 (IntKind.i8.wrap v1)) (by omega))
  have hJ := HJ.out
  have c1 := hJ.c1
  have f1 := hJ.f1
  replace HR := Lib.hid (hr.block (setCell_block (w := w4) (b := T3) (j := 1) (u := .int .i8 (IntKind.i8.wrap v1)) (by omega)))
  replace HI := Lib.hid (HI.out.block (setCell_block (w := w4) (b := T3) (j := 1) (u := .int .i8 (IntKind.i8.wrap v1)) (by omega)))
  replace HJ := Lib.hid (hJ.set1 (IntKind.i8.wrap v1))
  clear hr hd hJ
  go_wp2_with fail
  clear c1 f1
  generalize w4.setCell ⟨T3, 1, none⟩ (.int .i8 (IntKind.i8.wrap v1)) = w5 at *
  refine (rNum1_trk R bs l1 b1 (p + 1 + 1) w5 HR.out ht1 (fun h => hT (by omega))).mono ?_
  rintro e w6 ⟨v2, l2, b2, rfl, hr, ht2, hg2, hv2, hd⟩
  replace HI := Lib.hid (HI.out.block (hd.block _ HI.out.lt (by omega)))
  replace HJ := Lib.hid (HJ.out.block (hd.block _ HJ.out.lt (by omega)))
  have HI0 := HI
  replace HD := Lib.hid ((HD.out.trans hd).setNew (b := T3) (j := 2) (u := .int .u8 (v2 % 256)) (by omega))
  have hJ := HJ.out
  have c2 := hJ.c2
  have f2 := hJ.f2
  replace HR := Lib.hid (hr.block (setCell_block (w := w6) (b := T3) (j := 2) (u := .int .u8 (v2 % 256)) (by omega)))
  replace HI := Lib.hid (HI.out.block (setCell_block (w := w6) (b := T3) (j := 2) (u := .int .u8 (v2 % 256)) (by omega)))
  have hJ2 := hJ.set2 (v2 % 256)
  obtain ⟨a0, a1, a2, g0, g1, g2⟩ := HI0.out
  have k0 := hJ2.c0
  have k1 := hJ2.c1
  have k2 := hJ2.c2
  clear hr hd hJ HJ hJ2
  have hne : w.heap.size ≠ T3 := by omega
  have hne' : T3 ≠ w.heap.size := by omega
  go_wp2_with fail
  have hF := ((HI.out.set0 (IntKind.i8.wrap v0)).set1 (IntKind.i8.wrap v1)).set2 (v2 % 256)
  have HIF := Lib.hid hF
  have HRF : Hid (RG (((((w6.setCell ⟨T3, 2, none⟩ (.int .u8 (v2 % 256))).setCell ⟨w.heap.size, 0, none⟩ (.int .i8 (IntKind.i8.wrap v0))).setCell ⟨w.heap.size, 1, none⟩ (.int .i8 (IntKind.i8.wrap v1))).setCell ⟨w.heap.size, 2, none⟩ (.int .u8 (v2 % 256)))) R l2 b2) := Lib.hid (((HR.out.block (setCell_block (by omega))).block (setCell_block (by omega))).block (setCell_block (by omega)))
  have HDF := Lib.hid (((HD.out.setNew (b := w.heap.size) (j := 0) (u := .int .i8 (IntKind.i8.wrap v0)) (Nat.le_refl _)).setNew (b := w.heap.size) (j := 1) (u := .int .i8 (IntKind.i8.wrap v1)) (Nat.le_refl _)).setNew (b := w.heap.size) (j := 2) (u := .int .u8 (v2 % 256)) (Nat.le_refl _))
  clear hF HR HD HI HI0 a0 a1 a2 g0 g1 g2 k0 k1 k2 c2 f2
  generalize ((((w6.setCell ⟨T3, 2, none⟩ (.int .u8 (v2 % 256))).setCell ⟨w.heap.size, 0, none⟩ (.int .i8 (IntKind.i8.wrap v0))).setCell ⟨w.heap.size, 1, none⟩ (.int .i8 (IntKind.i8.wrap v1))).setCell ⟨w.heap.size, 2, none⟩ (.int .u8 (v2 % 256))) = w9 at *
  have hfin : b2 = false → bad = false ∧ IntKind.i8.wrap v0 = sgn (zz bs p) ∧ IntKind.i8.wrap v1 = sgn (zz bs (p + 1)) ∧ v2 % 256 = zz bs (p + 2) := fun h => by
    obtain ⟨h1, e2⟩ := hg2 h
    obtain ⟨h0, e1⟩ := hg1 h1
    obtain ⟨hb, e0⟩ := hg0 h0
    have := hby (p + 2)
    refine ⟨hb, ?_, ?_, ?_⟩
    · rw [e0]; exact i8_sgn _ (hby p)
    · rw [e1]; exact i8_sgn _ (hby (p + 1))
    · rw [e2]; show zz bs (p + 2) % 256 = _; omega
  refine bodyPost_ret (results_rin _ _ w.heap.size rfl HIF.out) rfl ?_
  exact ⟨_, _, _, l2, b2, rfl, HRF.out, ht2, hfin, HDF.out⟩
end Go.Proofs.Ytmhgkkfeohaojaa
