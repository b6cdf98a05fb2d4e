/-
  Entry: the reference's reader: an input. Entry: what the reference's GetEntry accepts, in plain words. Entry: where the reference's GetEntry stands.
-/
import Derived.Test.YtembppihfcclcaaG09x
namespace Go.Proofs.Ytembppihfcclcaa
set_option linter.unusedVariables false
open Go.ChangeShapes Go.WideShapes Go.ChangeAt Go.RowKit

set_option linter.unusedSimpArgs false
/-- An input in a block of its own. -/
structure IC (w : World) (b : Nat) (x y z : Int) : Prop where
  c0 : w.cell? ⟨b, 0, none⟩ = some (.int .i8 x)
  c1 : w.cell? ⟨b, 1, none⟩ = some (.int .i8 y)
  c2 : w.cell? ⟨b, 2, none⟩ = some (.int .u8 z)
  f0 : w.frozen? ⟨b, 0, none⟩ = false
  f1 : w.frozen? ⟨b, 1, none⟩ = false
  f2 : w.frozen? ⟨b, 2, none⟩ = false
theorem IC.block {w w' : World} {b : Nat} {x y z : Int} (h : IC w b x y z) (k : w'.heap[b]? = w.heap[b]?) : IC w' b x y z :=
  ⟨(World.cell?_of_block k).trans h.c0, (World.cell?_of_block k).trans h.c1, (World.cell?_of_block k).trans h.c2, (World.frozen?_of_block k).trans h.f0, (World.frozen?_of_block k).trans h.f1, (World.frozen?_of_block k).trans h.f2⟩
theorem IC.new (w : World) (x y z : Int) (T : TypeId) : IC (w.alloc (Obj.cells #[.int .i8 x, .int .i8 y, .int .u8 z] T)) w.heap.size x y z := by
  constructor
  · rw [World.cell?_alloc_new]; rfl
  · rw [World.cell?_alloc_new]; rfl
  · rw [World.cell?_alloc_new]; rfl
  · rw [World.frozen?_alloc_new]
  · rw [World.frozen?_alloc_new]
  · rw [World.frozen?_alloc_new]
theorem IC.lt {w : World} {b : Nat} {x y z : Int} (h : IC w b x y z) : b < w.heap.size := block_of_cell h.c0
theorem IC.set1 {w : World} {b : Nat} {x y z : Int} (h : IC w b x y z) (y' : Int) : IC (w.setCell ⟨b, 1, none⟩ (.int .i8 y')) b x y' z :=
  ⟨(World.cell?_setCell_other _ _ _ _ (by simp)).trans h.c0, World.cell?_setCell_same _ _ _ h.c1, (World.cell?_setCell_other _ _ _ _ (by simp)).trans h.c2, by rw [World.frozen?_setCell]; exact h.f0, by rw [World.frozen?_setCell]; exact h.f1, by rw [World.frozen?_setCell]; exact h.f2⟩
theorem IC.set2 {w : World} {b : Nat} {x y z : Int} (h : IC w b x y z) (z' : Int) : IC (w.setCell ⟨b, 2, none⟩ (.int .u8 z')) b x y z' :=
  ⟨(World.cell?_setCell_other _ _ _ _ (by simp)).trans h.c0, (World.cell?_setCell_other _ _ _ _ (by simp)).trans h.c1, World.cell?_setCell_same _ _ _ h.c2, by rw [World.frozen?_setCell]; exact h.f0, by rw [World.frozen?_setCell]; exact h.f1, by rw [World.frozen?_setCell]; exact h.f2⟩
theorem IC.set0 {w : World} {b : Nat} {x y z : Int} (h : IC w b x y z) (x' : Int) : IC (w.setCell ⟨b, 0, none⟩ (.int .i8 x')) b x' y z :=
  ⟨World.cell?_setCell_same _ _ _ h.c0, (World.cell?_setCell_other _ _ _ _ (by simp)).trans h.c1, (World.cell?_setCell_other _ _ _ _ (by simp)).trans h.c2, by rw [World.frozen?_setCell]; exact h.f0, by rw [World.frozen?_setCell]; exact h.f1, by rw [World.frozen?_setCell]; exact h.f2⟩
theorem Rd.setNew {R b j : Nat} {w w' : World} {u : Value} (h : Rd R w w') (hb : w.heap.size ≤ b) : Rd R w (w'.setCell ⟨b, j, none⟩ u) :=
  ⟨h.os, h.tape, h.output, by have := h.size; simpa [World.setCell] using this, fun k hk hr => (Below.heap_setCell _ _ _ _ (by show k ≠ b; omega)).trans (h.block k hk hr)⟩
theorem setCell_block {w : World} {b j k : Nat} {u : Value} (hk : k ≠ b) : (w.setCell ⟨b, j, none⟩ u).heap[k]? = w.heap[k]? := Below.heap_setCell _ _ _ _ hk
theorem results_rin (tmps : Array Value) (w : World) (b : Nat) (h2 : tmps.getD 2 undef = .pointer (some ⟨b, 0, none⟩)) {x y z : Int} (h : IC w b x y z) : (results Try.f60 tmps).run Try.prog w = .ok (.agg #[.int .i8 x, .int .i8 y, .int .u8 z]) w := by
  have c0 := h.c0
  have c1 := h.c1
  have c2 := h.c2
  have h2' : tmps[2]?.getD undef = .pointer (some ⟨b, 0, none⟩) := by simpa using h2
  have hl : (loadVar 34 ⟨b, 0, none⟩).run Try.prog w = .ok (.agg #[.int .i8 x, .int .i8 y, .int .u8 z]) w := by simp [go_sem, c0, c1, c2]; try go_simp
  simp [results, Try.results60, h2', asAddr, hl]
set_option maxHeartbeats 1000000 in
theorem rInput_trk (R : Nat) (bs l : List Int) (bad : Bool) (p : Nat) (hby : ByteL bs) (w : World) (h : RG w R l bad) (ht : Trk bs p l bad) (hT : bs.length < p + 3 → ¬ OkG bs) :
    Calls Try.prog 60 #[.pointer (some ⟨R, 0, none⟩)] w fun e w' => ∃ x y z l' bad', e = .returned (.agg #[.int .i8 x, .int .i8 y, .int .u8 z]) ∧ RG w' R l' bad' ∧ Trk bs (p + 3) l' bad' ∧ (bad' = false → bad = false ∧ x = sgn (zz bs p) ∧ y = sgn (zz bs (p + 1)) ∧ z = zz bs (p + 2)) ∧ Rd R w w' := by
  have hlt := h.lt
  have HR := Lib.hid (h.block (Below.heap_alloc w (Obj.cells #[.int .i8 0, .int .i8 0, .int .u8 0] 34) R hlt))
  have HI := Lib.hid (IC.new w 0 0 0 34)
  have HD : Hid (Rd R w (w.alloc (Obj.cells #[.int .i8 0, .int .i8 0, .int .u8 0] 34))) := Lib.hid (Below.rd ((Below.refl w.heap.size w).alloc (Nat.le_refl _) _) (Nat.le_refl _))
  go_enter Try.func60, Try.ntmps60
  go_wp2_with fail
  generalize w.alloc (Obj.cells #[.int .i8 0, .int .i8 0, .int .u8 0] 34) = w1 at *
  refine (rNum1_trk R bs l bad p w1 HR.out ht (fun h => hT (by omega))).mono ?_
  rintro e w2 ⟨v0, l0, b0, rfl, hr, ht0, hg0, -, hd⟩
  have e1 : IntKind.i8.wrap v0 = IntKind.i8.wrap v0 := rfl
  replace HI := Lib.hid (HI.out.block (hd.block _ HI.out.lt (by omega)))
  have HI2 := Lib.hid HI.out.lt
  replace HD := Lib.hid (HD.out.trans hd)
  have hl2 := hr.lt
  have HJ := Lib.hid (IC.new w2 (IntKind.i8.wrap v0) 0 0 34)
  have bA := (Below.refl w2.heap.size w2).alloc (Nat.le_refl _) (Obj.cells #[.int .i8 (IntKind.i8.wrap v0), .int .i8 0, .int .u8 0] 34)
  replace HI := Lib.hid (HI.out.block (bA.block _ HI.out.lt))
  replace HR := Lib.hid (hr.block (bA.block _ hr.lt))
  replace HD := Lib.hid (HD.out.trans (Below.rd bA (Nat.le_refl _)))
  have hs2 := HI.out.lt
  clear hr hd bA ht e1
  go_wp2_with fail
  have hsz : w.heap.size < (w2.alloc (Obj.cells #[.int .i8 (IntKind.i8.wrap v0), .int .i8 0, .int .u8 0] 34)).heap.size := hs2
  have hT3 : w2.heap.size < (w2.alloc (Obj.cells #[.int .i8 (IntKind.i8.wrap v0), .int .i8 0, .int .u8 0] 34)).heap.size := by simp
  have hw2 : w.heap.size < w2.heap.size := by
    have := HI2.out
    omega
  generalize w2.alloc (Obj.cells #[.int .i8 (IntKind.i8.wrap v0), .int .i8 0, .int .u8 0] 34) = w3 at *
  generalize w2.heap.size = T3 at *
  refine (rNum1_trk R bs l0 b0 (p + 1) w3 HR.out ht0 (fun h => hT (by omega))).mono ?_
  rintro e w4 ⟨v1, l1, b1, rfl, hr, ht1, hg1, -, hd⟩
  replace HI := Lib.hid (HI.out.block (hd.block _ HI.out.lt (by omega)))
  replace HJ := Lib.hid (HJ.out.block (hd.block _ HJ.out.lt (by omega)))
  replace HD := Lib.hid ((HD.out.trans hd).setNew (b := T3) (j := 1) (u := .int .i8 (IntKind.i8.wrap v1)) (by omega))
  have hJ := HJ.out
  have c1 := hJ.c1
  have f1 := hJ.f1
  replace HR := Lib.hid (hr.block (setCell_block (w := w4) (b := T3) (j := 1) (u := .int .i8 (IntKind.i8.wrap v1)) (by omega)))
  replace HI := Lib.hid (HI.out.block (setCell_block (w := w4) (b := T3) (j := 1) (u := .int .i8 (IntKind.i8.wrap v1)) (by omega)))
  replace HJ := Lib.hid (hJ.set1 (IntKind.i8.wrap v1))
  clear hr hd hJ
  go_wp2_with fail
  clear c1 f1
  generalize w4.setCell ⟨T3, 1, none⟩ (.int .i8 (IntKind.i8.wrap v1)) = w5 at *
  refine (rNum1_trk R bs l1 b1 (p + 1 + 1) w5 HR.out ht1 (fun h => hT (by omega))).mono ?_
  rintro e w6 ⟨v2, l2, b2, rfl, hr, ht2, hg2, hv2, hd⟩
  replace HI := Lib.hid (HI.out.block (hd.block _ HI.out.lt (by omega)))
  replace HJ := Lib.hid (HJ.out.block (hd.block _ HJ.out.lt (by omega)))
  have HI0 := HI
  replace HD := Lib.hid ((HD.out.trans hd).setNew (b := T3) (j := 2) (u := .int .u8 (v2 % 256)) (by omega))
  have hJ := HJ.out
  have c2 := hJ.c2
  have f2 := hJ.f2
  replace HR := Lib.hid (hr.block (setCell_block (w := w6) (b := T3) (j := 2) (u := .int .u8 (v2 % 256)) (by omega)))
  replace HI := Lib.hid (HI.out.block (setCell_block (w := w6) (b := T3) (j := 2) (u := .int .u8 (v2 % 256)) (by omega)))
  have hJ2 := hJ.set2 (v2 % 256)
  obtain ⟨a0, a1, a2, g0, g1, g2⟩ := HI0.out
  have k0 := hJ2.c0
  have k1 := hJ2.c1
  have k2 := hJ2.c2
  clear hr hd hJ HJ hJ2
  have hne : w.heap.size ≠ T3 := by omega
  have hne' : T3 ≠ w.heap.size := by omega
  go_wp2_with fail
  have hF := ((HI.out.set0 (IntKind.i8.wrap v0)).set1 (IntKind.i8.wrap v1)).set2 (v2 % 256)
  have HIF := Lib.hid hF
  have HRF : Hid (RG (((((w6.setCell ⟨T3, 2, none⟩ (.int .u8 (v2 % 256))).setCell ⟨w.heap.size, 0, none⟩ (.int .i8 (IntKind.i8.wrap v0))).setCell ⟨w.heap.size, 1, none⟩ (.int .i8 (IntKind.i8.wrap v1))).setCell ⟨w.heap.size, 2, none⟩ (.int .u8 (v2 % 256)))) R l2 b2) := Lib.hid (((HR.out.block (setCell_block (by omega))).block (setCell_block (by omega))).block (setCell_block (by omega)))
  have HDF := Lib.hid (((HD.out.setNew (b := w.heap.size) (j := 0) (u := .int .i8 (IntKind.i8.wrap v0)) (Nat.le_refl _)).setNew (b := w.heap.size) (j := 1) (u := .int .i8 (IntKind.i8.wrap v1)) (Nat.le_refl _)).setNew (b := w.heap.size) (j := 2) (u := .int .u8 (v2 % 256)) (Nat.le_refl _))
  clear hF HR HD HI HI0 a0 a1 a2 g0 g1 g2 k0 k1 k2 c2 f2
  generalize ((((w6.setCell ⟨T3, 2, none⟩ (.int .u8 (v2 % 256))).setCell ⟨w.heap.size, 0, none⟩ (.int .i8 (IntKind.i8.wrap v0))).setCell ⟨w.heap.size, 1, none⟩ (.int .i8 (IntKind.i8.wrap v1))).setCell ⟨w.heap.size, 2, none⟩ (.int .u8 (v2 % 256))) = w9 at *
  have hfin : b2 = false → bad = false ∧ IntKind.i8.wrap v0 = sgn (zz bs p) ∧ IntKind.i8.wrap v1 = sgn (zz bs (p + 1)) ∧ v2 % 256 = zz bs (p + 2) := fun h => by
    obtain ⟨h1, e2⟩ := hg2 h
    obtain ⟨h0, e1⟩ := hg1 h1
    obtain ⟨hb, e0⟩ := hg0 h0
    have := hby (p + 2)
    refine ⟨hb, ?_, ?_, ?_⟩
    · rw [e0]; exact i8_sgn _ (hby p)
    · rw [e1]; exact i8_sgn _ (hby (p + 1))
    · rw [e2]; show zz bs (p + 2) % 256 = _; omega
  refine bodyPost_ret (results_rin _ _ w.heap.size rfl HIF.out) rfl ?_
  exact ⟨_, _, _, l2, b2, rfl, HRF.out, ht2, hfin, HDF.out⟩
end Go.Proofs.Ytembppihfcclcaa

namespace Go.Proofs.Ytembppihfcclcaa
set_option linter.unusedVariables false
open Go.ChangeShapes Go.WideShapes Go.ChangeAt Go.RowKit

theorem zz_put_ev (fr : Int) (n : Nat) (E : Nat → Nat → Int) (I : Nat → Int) (i j : Nat) (hi : i < n) (hj : j < 5) : zz (putB fr n E I) (5 + 5 * i + j) = zz (ev5 E i) j := by
  unfold putB putS
  rw [zz_app_r _ _ _ (5 * i + j) (by show _ = 5 + _; omega), zz_app_l _ _ _ (by rw [evsB_len]; omega), zz_evsB E j hj n i hi]
theorem zz_put_inp (fr : Int) (n : Nat) (E : Nat → Nat → Int) (I : Nat → Int) (M t r : Nat) (hM : ∀ t, t < 8 → M.testBit t = inpNZ I t) (ht : t < 8) (hb : M.testBit t = true) (hr : r < 3) : zz (putB fr n E I) (6 + 5 * n + 3 * gcnt M t + r) = zz (inp3 I t) r := by
  unfold putB putS
  rw [zz_app_r _ _ _ (5 * n + (3 * gcnt M t + r) + 1) (by show _ = 5 + _; omega), zz_app_r _ _ _ (3 * gcnt M t + r + 1) (by rw [evsB_len]; omega), zz_cons]
  exact zz_inpsB I M r hr 8 t hM ht (by rw [← hM t ht]; exact hb)
theorem gcnt_slot (M : Nat) : ∀ s c, c < gcnt M s → ∃ t, t < s ∧ M.testBit t = true ∧ gcnt M t = c
  | 0, c, h => by simp [gcnt] at h
  | s + 1, c, h => by
    by_cases hb : M.testBit s = true
    · rw [gcnt_yes _ _ hb] at h
      by_cases e : c = gcnt M s
      · exact ⟨s, by omega, hb, e.symm⟩
      · obtain ⟨t, h1, h2, h3⟩ := gcnt_slot M s c (by omega)
        exact ⟨t, by omega, h2, h3⟩
    · rw [Bool.not_eq_true] at hb
      rw [gcnt_no _ _ hb] at h
      obtain ⟨t, h1, h2, h3⟩ := gcnt_slot M s c h
      exact ⟨t, by omega, h2, h3⟩
theorem nz_bit (bs : List Int) (t : Nat) (h : inpNZ (gI bs) t = true) : (gM bs).testBit t = true := by
  apply Classical.byContradiction
  intro hb
  have z : ∀ r, r < 3 → gI bs (t * 3 + r) = 0 := fun r hr => by
    unfold gI
    rw [show (t * 3 + r) / 3 = t by omega, if_neg hb]
  have z0 := z 0 (by omega)
  unfold inpNZ at h
  rw [z 1 (by omega), z 2 (by omega), show t * 3 = t * 3 + 0 by omega, z0] at h
  cases h
theorem inpsB_lt (I : Nat → Int) (M : Nat) : ∀ s, (∀ t, t < s → inpNZ I t = true → M.testBit t = true) → ∀ t0, t0 < s → M.testBit t0 = true → inpNZ I t0 = false → (inpsB I s).length < 3 * gcnt M s
  | 0, _, t0, h0, _, _ => by omega
  | s + 1, h, t0, h0, hb, hn => by
    by_cases e : t0 = s
    · subst e
      have := inpsB_le I M t0 (fun t ht => h t (by omega))
      have e : inpsB I (t0 + 1) = inpsB I t0 := by show (if inpNZ I t0 then _ else _) = _; rw [if_neg (by simp [hn])]
      rw [e, gcnt_yes _ _ hb]
      omega
    · have ih := inpsB_lt I M s (fun t ht => h t (by omega)) t0 (by omega) hb hn
      by_cases hs : inpNZ I s = true
      · have e : inpsB I (s + 1) = inpsB I s ++ inp3 I s := by show (if inpNZ I s then _ else _) = _; rw [if_pos hs]
        rw [e, List.length_append, gcnt_yes _ _ (h s (by omega) hs)]
        show _ + 3 < _
        omega
      · have e : inpsB I (s + 1) = inpsB I s := by show (if inpNZ I s then _ else _) = _; rw [if_neg hs]
        have := gcnt_mono M s (s + 1) (by omega)
        rw [e]
        omega
theorem ok_nz {bs : List Int} (h : OkG bs) (t : Nat) (ht : t < 8) (hb : (gM bs).testBit t = true) : inpNZ (gI bs) t = true := by
  apply Classical.byContradiction
  intro hn
  rw [Bool.not_eq_true] at hn
  have h1 := ok_tot h
  have h2 : (putB (gFr bs) (gN bs) (gE bs) (gI bs)).length = bs.length := by rw [h.2.2]
  unfold putB at h2
  rw [putS_len] at h2
  have := inpsB_lt (gI bs) (gM bs) 8 (fun t _ => nz_bit bs t) t ht hb hn
  unfold gTot at h1
  omega
theorem sgn_mod (x : Int) (h : 0 ≤ x ∧ x < 256) : sgn x % 256 = x := by unfold sgn; split <;> omega
theorem ok_of {bs : List Int} (hby : ByteL bs) (ht : gTot bs = bs.length) (hm : mayE (gFr bs) (gN bs) (gE bs) (gI bs) = true) (hnz : ∀ t, t < 8 → (gM bs).testBit t = true → inpNZ (gI bs) t = true) : OkG bs := by
  have hM : ∀ t, t < 8 → (gM bs).testBit t = inpNZ (gI bs) t := fun t h => by
    rw [Bool.eq_iff_iff]
    exact ⟨hnz t h, nz_bit bs t⟩
  have hcnt := inpsB_cnt (gI bs) (gM bs) 8 hM
  have hlen : (putB (gFr bs) (gN bs) (gE bs) (gI bs)).length = bs.length := by
    rw [← ht]
    unfold putB gTot
    rw [putS_len, hcnt]
  refine ⟨Nat.le_of_eq ht, hm, getD_eq_of hlen fun i hi => ?_⟩
  rw [hlen, ← ht] at hi
  show zz (putB _ _ _ _) i = zz bs i
  have b := hby i
  by_cases h5 : i < 5
  · have b0 := hby 0
    have b1 := hby 1
    have b2 := hby 2
    have b3 := hby 3
    have b4 := hby 4
    rcases (by omega : i = 0 ∨ i = 1 ∨ i = 2 ∨ i = 3 ∨ i = 4) with rfl | rfl | rfl | rfl | rfl
    · show gFr bs % 256 = _; unfold gFr; omega
    · show gFr bs / 256 % 256 = _; unfold gFr; omega
    · show gFr bs / 65536 % 256 = _; unfold gFr; omega
    · show gFr bs / 16777216 % 256 = _; unfold gFr; omega
    · show (gN bs : Int) % 256 = _; unfold gN; omega
  · by_cases hE : i < 5 + 5 * gN bs
    · obtain ⟨q, j, hq, hj, rfl⟩ : ∃ q j, q < gN bs ∧ j < 5 ∧ i = 5 + 5 * q + j := ⟨(i - 5) / 5, (i - 5) % 5, by omega, by omega, by omega⟩
      rw [zz_put_ev _ _ _ _ q j hq hj]
      have c0 := hby (5 + 5 * q)
      have c1 := hby (5 + 5 * q + 1)
      have c2 := hby (5 + 5 * q + 2)
      have c3 := hby (5 + 5 * q + 3)
      have c4 := hby (5 + 5 * q + 4)
      rcases (by omega : j = 0 ∨ j = 1 ∨ j = 2 ∨ j = 3 ∨ j = 4) with rfl | rfl | rfl | rfl | rfl
      · show zz bs (5 + 5 * q) % 256 = zz bs (5 + 5 * q); omega
      · show zz bs (5 + 5 * q + 1) % 256 = _; omega
      · show (zz bs (5 + 5 * q + 2) + zz bs (5 + 5 * q + 3) * 256) % 256 = _; omega
      · show (zz bs (5 + 5 * q + 2) + zz bs (5 + 5 * q + 3) * 256) / 256 % 256 = _; omega
      · show zz bs (5 + 5 * q + 4) % 256 = _; omega
    · by_cases hm5 : i = 5 + 5 * gN bs
      · subst hm5
        have h1 := putS_mask (gFr bs) (gN bs) (gE bs) (gI bs) 8
        have h2 : maskN (gI bs) 8 = gM bs := by
          apply Nat.eq_of_testBit_eq
          intro t
          by_cases h8 : t < 8
          · rw [mask_all _ _ h8, hM t h8]
          · have h3 : (maskN (gI bs) 8).testBit t = false := by rw [maskN_bit, decide_eq_false h8]; rfl
            rw [h3, Nat.testBit_lt_two_pow]
            exact Nat.lt_of_lt_of_le (gM_lt hby) (Nat.pow_le_pow_right (n := 2) (by omega) (show 8 ≤ t by omega))
        show (putS _ _ _ _ 8).getD _ 0 = _
        rw [h1, h2]
        unfold gM
        omega
      · unfold gTot at hi
        obtain ⟨t, ht8, hb, hc⟩ := gcnt_slot (gM bs) 8 ((i - 6 - 5 * gN bs) / 3) (by omega)
        obtain ⟨r, hr, e⟩ : ∃ r, r < 3 ∧ i = 6 + 5 * gN bs + 3 * gcnt (gM bs) t + r := ⟨(i - 6 - 5 * gN bs) % 3, by omega, by omega⟩
        subst e
        rw [zz_put_inp _ _ _ _ (gM bs) t r hM ht8 hb hr]
        have gI3 : ∀ r, r < 3 → gI bs (t * 3 + r) = if r = 2 then zz bs (6 + 5 * gN bs + 3 * gcnt (gM bs) t + r) else sgn (zz bs (6 + 5 * gN bs + 3 * gcnt (gM bs) t + r)) := fun r hr => by
          unfold gI
          rw [show (t * 3 + r) / 3 = t by omega, if_pos hb, show (t * 3 + r) % 3 = r by omega]
        rcases (by omega : r = 0 ∨ r = 1 ∨ r = 2) with rfl | rfl | rfl
        · show gI bs (t * 3) % 256 = _
          rw [show t * 3 = t * 3 + 0 by omega, gI3 0 (by omega), if_neg (by omega)]; exact sgn_mod _ b
        · show gI bs (t * 3 + 1) % 256 = _
          rw [gI3 1 (by omega), if_neg (by omega)]; exact sgn_mod _ b
        · show gI bs (t * 3 + 2) = _
          rw [gI3 2 (by omega), if_pos rfl]
end Go.Proofs.Ytembppihfcclcaa

namespace Go.Proofs.Ytembppihfcclcaa
set_option linter.unusedVariables false
open Go.ChangeShapes Go.WideShapes Go.ChangeAt Go.RowKit

set_option linter.unusedSimpArgs false
structure GT (w : World) (b5 : Nat) (fr : Int) (sv : Value) (m : Nat) (E : Nat → Nat → Int) (I : Nat → Int) (wr : World) : Prop where
  g5 : w.heap.size + 2 ≤ b5
  th2 : wr.there w.heap.size 0 26
  ent : EntAt wr b5 0 fr sv I
  th5 : wr.there b5 0 26
  own : OwnE wr (b5 + 1) sv m E
  bel : Below w.heap.size w wr
theorem OwnE.rd {w w' : World} {B R m : Nat} {sv : Value} {E : Nat → Nat → Int} (h : OwnE w B sv m E) (hd : Rd R w w') (hR : R < B) : OwnE w' B sv m E := by
  refine World.ownsRow.kept (row := some R) h ⟨hd.os, hd.tape, hd.output, hd.size, fun k hk hr => hd.block k hk (fun e => hr (by rw [e]))⟩ ?_
  cases hv : sv.ownBlock with
  | none => exact Or.inl rfl
  | some g => exact Or.inr (fun e => by have := (World.ownsRow.lt h g hv).1; injection e with e; omega)
theorem GT.rd {w wr w' : World} {b5 : Nat} {fr : Int} {sv : Value} {m : Nat} {E : Nat → Nat → Int} {I : Nat → Int} (h : GT w b5 fr sv m E I wr) (hd : Rd (w.heap.size + 1) wr w') : GT w b5 fr sv m E I w' := by
  have hl := h.ent.lt
  have hg := h.g5
  exact ⟨hg, there_block h.th2 (hd.block _ (by omega) (by omega)), h.ent.block (hd.block _ hl (by omega)), there_block h.th5 (hd.block _ hl (by omega)), h.own.rd hd (by omega), h.bel.trans (hd.below (by omega) (by omega))⟩
theorem GT.below {w wr w' : World} {b5 : Nat} {fr : Int} {sv : Value} {m : Nat} {E : Nat → Nat → Int} {I : Nat → Int} (h : GT w b5 fr sv m E I wr) (hb : Below wr.heap.size wr w') : GT w b5 fr sv m E I w' := h.rd (Below.rd hb (Nat.le_refl _))
/-- A cell of the entry read so far turned. -/
theorem GT.set {w wr : World} {b5 : Nat} {fr fr' : Int} {sv sv' v : Value} {m m' : Nat} {E E' : Nat → Nat → Int} {I I' : Nat → Int} (h : GT w b5 fr sv m E I wr) (k : Nat) (he : ∀ j, j < 26 → entF fr' sv' I' j = if j = k then v else entF fr sv I j) (ho : OwnE wr (b5 + 1) sv' m' E') :
    GT w b5 fr' sv' m' E' I' (wr.setCell ⟨b5, k, none⟩ v) := by
  have hO := (Only.refl b5 wr).setCell (p := ⟨b5, k, none⟩) rfl v
  have hg := h.g5
  exact ⟨hg, there_block h.th2 (hO.block _ (by omega)), h.ent.set k he, there_set h.th5, ho.other hO (by omega), h.bel.trans (hO.below (by omega))⟩
theorem GT.setEv {w wr : World} {b5 : Nat} {fr : Int} {sv sv' : Value} {m m' : Nat} {E E' : Nat → Nat → Int} {I : Nat → Int} (h : GT w b5 fr sv m E I wr) (ho : OwnE wr (b5 + 1) sv' m' E') : GT w b5 fr sv' m' E' I (wr.setCell ⟨b5, 1, none⟩ sv') :=
  h.set 1 (fun j _ => by
    unfold entF
    by_cases h0 : j = 0
    · rw [if_pos h0, if_pos h0, if_neg (by omega)]
    · rw [if_neg h0, if_neg h0]; split <;> rfl) ho
theorem GT.setIn {w wr : World} {b5 : Nat} {fr : Int} {sv : Value} {m : Nat} {E : Nat → Nat → Int} {I : Nat → Int} (h : GT w b5 fr sv m E I wr) (k : Nat) (hk : k < 24) (x : Int) : GT w b5 fr sv m E (updI I k x) (wr.setCell ⟨b5, 2 + k, none⟩ (.int (if k % 3 = 2 then .u8 else .i8) x)) :=
  h.set (2 + k) (fun j _ => by
    unfold entF inpV updI
    by_cases h0 : j = 0
    · rw [if_pos h0, if_neg (by omega), if_pos h0]
    · by_cases h1 : j = 1
      · rw [if_neg h0, if_pos h1, if_neg (by omega), if_neg h0, if_pos h1]
      · by_cases h2 : j = 2 + k
        · rw [if_neg h0, if_neg h1, if_pos h2]
          subst h2
          rw [show 2 + k - 2 = k by omega, if_pos rfl]
        · rw [if_neg h0, if_neg h1, if_neg h2, if_neg h0, if_neg h1, if_neg (show ¬ (j - 2 = k) by omega)]) h.own
theorem GT.set3 {w wr : World} {b5 : Nat} {fr : Int} {sv : Value} {m : Nat} {E : Nat → Nat → Int} {I : Nat → Int} (h : GT w b5 fr sv m E I wr) (s : Nat) (hs : s < 8) (x y z : Int) :
    GT w b5 fr sv m E (updI (updI (updI I (s * 3) x) (s * 3 + 1) y) (s * 3 + 2) z) (((wr.setCell ⟨b5, 2 + s * 3, none⟩ (.int .i8 x)).setCell ⟨b5, 2 + s * 3 + 1, none⟩ (.int .i8 y)).setCell ⟨b5, 2 + s * 3 + 2, none⟩ (.int .u8 z)) := by
  have h1 := h.setIn (s * 3) (by omega) x
  rw [if_neg (show ¬ (s * 3 % 3 = 2) by omega)] at h1
  have h2 := h1.setIn (s * 3 + 1) (by omega) y
  rw [if_neg (show ¬ ((s * 3 + 1) % 3 = 2) by omega)] at h2
  have h3 := h2.setIn (s * 3 + 2) (by omega) z
  rw [if_pos (show (s * 3 + 2) % 3 = 2 by omega)] at h3
  exact h3
/-- An event in a block of its own. -/
structure XC (w : World) (b : Nat) (e0 e1 e2 e3 : Int) : Prop where
  c0 : w.cell? ⟨b, 0, none⟩ = some (.int .i64 e0)
  c1 : w.cell? ⟨b, 1, none⟩ = some (.int .i64 e1)
  c2 : w.cell? ⟨b, 2, none⟩ = some (.int .i64 e2)
  c3 : w.cell? ⟨b, 3, none⟩ = some (.int .i64 e3)
  f : ∀ j, j < 4 → w.frozen? ⟨b, j, none⟩ = false
theorem XC.block {w w' : World} {b : Nat} {e0 e1 e2 e3 : Int} (h : XC w b e0 e1 e2 e3) (k : w'.heap[b]? = w.heap[b]?) : XC w' b e0 e1 e2 e3 :=
  ⟨(World.cell?_of_block k).trans h.c0, (World.cell?_of_block k).trans h.c1, (World.cell?_of_block k).trans h.c2, (World.cell?_of_block k).trans h.c3, fun j hj => (World.frozen?_of_block k).trans (h.f j hj)⟩
theorem XC.new (w : World) (e0 e1 e2 e3 : Int) (T : TypeId) : XC (w.alloc (Obj.cells #[.int .i64 e0, .int .i64 e1, .int .i64 e2, .int .i64 e3] T)) w.heap.size e0 e1 e2 e3 := by
  refine ⟨?_, ?_, ?_, ?_, fun j _ => by rw [World.frozen?_alloc_new]⟩
  all_goals (rw [World.cell?_alloc_new]; rfl)
theorem XC.lt {w : World} {b : Nat} {e0 e1 e2 e3 : Int} (h : XC w b e0 e1 e2 e3) : b < w.heap.size := block_of_cell h.c0
theorem XC.set1 {w : World} {b : Nat} {e0 e1 e2 e3 : Int} (h : XC w b e0 e1 e2 e3) (x : Int) : XC (w.setCell ⟨b, 1, none⟩ (.int .i64 x)) b e0 x e2 e3 :=
  ⟨(World.cell?_setCell_other _ _ _ _ (by simp)).trans h.c0, World.cell?_setCell_same _ _ _ h.c1, (World.cell?_setCell_other _ _ _ _ (by simp)).trans h.c2, (World.cell?_setCell_other _ _ _ _ (by simp)).trans h.c3, fun j hj => by rw [World.frozen?_setCell]; exact h.f j hj⟩
theorem XC.set2 {w : World} {b : Nat} {e0 e1 e2 e3 : Int} (h : XC w b e0 e1 e2 e3) (x : Int) : XC (w.setCell ⟨b, 2, none⟩ (.int .i64 x)) b e0 e1 x e3 :=
  ⟨(World.cell?_setCell_other _ _ _ _ (by simp)).trans h.c0, (World.cell?_setCell_other _ _ _ _ (by simp)).trans h.c1, World.cell?_setCell_same _ _ _ h.c2, (World.cell?_setCell_other _ _ _ _ (by simp)).trans h.c3, fun j hj => by rw [World.frozen?_setCell]; exact h.f j hj⟩
theorem XC.set3 {w : World} {b : Nat} {e0 e1 e2 e3 : Int} (h : XC w b e0 e1 e2 e3) (x : Int) : XC (w.setCell ⟨b, 3, none⟩ (.int .i64 x)) b e0 e1 e2 x :=
  ⟨(World.cell?_setCell_other _ _ _ _ (by simp)).trans h.c0, (World.cell?_setCell_other _ _ _ _ (by simp)).trans h.c1, (World.cell?_setCell_other _ _ _ _ (by simp)).trans h.c2, World.cell?_setCell_same _ _ _ h.c3, fun j hj => by rw [World.frozen?_setCell]; exact h.f j hj⟩
def updE (E : Nat → Nat → Int) (m : Nat) (e0 e1 e2 e3 : Int) : Nat → Nat → Int := fun i j => if i = m then (if j = 0 then e0 else if j = 1 then e1 else if j = 2 then e2 else e3) else E i j
theorem evL_upd (E : Nat → Nat → Int) (m : Nat) (e0 e1 e2 e3 : Int) : evL (updE E m e0 e1 e2 e3) (m + 1) = evL E m ++ [.int .i64 e0, .int .i64 e1, .int .i64 e2, .int .i64 e3] := by
  have h : evL (updE E m e0 e1 e2 e3) m = evL E m := evL_congr m (fun i hi j _ => by unfold updE; rw [if_neg (by omega)])
  show evL (updE E m e0 e1 e2 e3) m ++ _ = _
  rw [h]
  unfold updE
  simp
/-- append of one event to events of the call's own. -/
theorem step_app_evL {ops : Array Oper} {rest : List Oper} {op : Oper} {a : Act} {Q : Exit → Act → World → Prop} (hgd : op.guard = none) (s x : Operand)
    (ho : op.op = Op.call { callee := Callee.builtin Builtin.append, args := #[s, x], argTypes := #[31, 31] })
    (B : Nat) (sv : Value) (m : Nat) (E : Nat → Nat → Int) (w : World) (hs : a.eval s = sv) (hown : OwnE w B sv m E) (hB : B ≤ w.heap.size) (e0 e1 e2 e3 : Int) (T : Nat) (hT : w.heap.size = T) (hx : a.eval x = .slice (some ⟨T, 0, none⟩) 1 1) (hm : m ≤ 1000)
    (h : ∀ v' w', OwnE w' B v' (m + 1) (updE E m e0 e1 e2 e3) → Below B w w' → (∃ g cap, v' = .slice (some ⟨g, 0, none⟩) (m + 1) cap) → wpList Try.prog ops Q rest (a.put op.dst v') w') :
    wpList Try.prog ops Q (op :: rest) a (w.alloc (Obj.cells #[.int .i64 e0, .int .i64 e1, .int .i64 e2, .int .i64 e3] 43)) := by
  subst hT
  obtain ⟨i0, hi, hz0, hz1, hz2⟩ := info_parts (P := Try.prog) (e := 43) (z := .agg #[.int .i64 0, .int .i64 0, .int .i64 0, .int .i64 0]) (size := 4) (bytes := 32) (by kernel_rfl)
  refine wpList_append_own _ hgd s x 31 ho B 43 i0 (.agg #[.int .i64 0, .int .i64 0, .int .i64 0, .int .i64 0]) 4 32 Try.underlying31 hi hz0 hz1 hz2 rfl (by decide) sv m (evL E m) hs (World.ownsRow.alloc hown _) ⟨w.heap.size, 0, none⟩ 1 1 [.int .i64 e0, .int .i64 e1, .int .i64 e2, .int .i64 e3] hx rfl ?_ ?_ (by unfold maxLen; omega) (by omega) (by simp; omega) ?_
  · intro j u hj
    rw [Go.WideShapes.add_plain, World.cell?_alloc_new, Nat.zero_add, ← hj]
    exact List.getElem?_toArray
  · intro u hu
    simp only [List.mem_cons, List.not_mem_nil, or_false] at hu
    rcases hu with rfl | rfl | rfl | rfl <;> rfl
  · intro v' w' h1 h2 h3
    rw [← evL_upd] at h1
    refine h v' w' h1 ?_ ?_
    · have hb := (Below.refl B w).alloc hB (Obj.cells #[.int .i64 e0, .int .i64 e1, .int .i64 e2, .int .i64 e3] 43)
      refine hb.grown h2 (by simp; omega) ?_
      intro k hk
      exact (World.ownsRow.lt hown k (by simpa using hk)).1
    · rcases h1.2 with ⟨-, h0⟩ | ⟨g, cap, cur, hv, -⟩
      · omega
      · exact ⟨g, cap, hv⟩
theorem build_z (w : World) : (Instr.build 37 #[]).run Try.prog w = .ok (.agg (entL 0 (.slice none 0 0) (fun _ => 0)).toArray) w := by kernel_rfl
theorem results_ge (tmps : Array Value) (w : World) (t2 : Nat) (x : Int) (h2 : tmps.getD 2 undef = .pointer (some ⟨t2, 0, none⟩)) (h3 : tmps.getD 3 undef = .int .i64 x) (fr : Int) (sv : Value) (I : Nat → Int) (he : EntAt w t2 0 fr sv I) :
    (results Try.f61 tmps).run Try.prog w = .ok (.tuple #[.agg (entL fr sv I).toArray, .int .i64 x]) w := by
  have hl := run_loadVar_mid (P := Try.prog) w t2 0 37 (entL fr sv I) _ he.range Try.underlying37 rfl (size_ent fr sv I)
  have h2' : tmps[2]?.getD undef = .pointer (some ⟨t2, 0, none⟩) := by simpa using h2
  have h3' : tmps[3]?.getD undef = .int .i64 x := by simpa using h3
  simp [results, Try.results61, h2', h3', asAddr, hl]
theorem RG.setBad {w : World} {R : Nat} {l : List Int} {bad : Bool} (h : RG w R l bad) (b : Bool) : RG (w.setCell ⟨R, 1, none⟩ (.bool b)) R l b :=
  ⟨(World.cell?_setCell_other _ _ _ _ (by simp)).trans h.c0, World.cell?_setCell_same _ _ _ h.c1, by rw [World.frozen?_setCell]; exact h.f0, by rw [World.frozen?_setCell]; exact h.f1⟩
theorem GT.setR {w wr : World} {b5 : Nat} {fr : Int} {sv v : Value} {m : Nat} {E : Nat → Nat → Int} {I : Nat → Int} (h : GT w b5 fr sv m E I wr) (k : Nat) : GT w b5 fr sv m E I (wr.setCell ⟨w.heap.size + 1, k, none⟩ v) :=
  h.rd ((Only.refl (w.heap.size + 1) wr).setCell (p := ⟨w.heap.size + 1, k, none⟩) rfl v).rd
theorem GT.congr {w wr : World} {b5 : Nat} {fr fr' : Int} {sv : Value} {m : Nat} {E : Nat → Nat → Int} {I : Nat → Int} (h : GT w b5 fr sv m E I wr) (e : fr = fr') : GT w b5 fr' sv m E I wr := e ▸ h
/-- Where the reading starts: the entry returned, the reader, the entry read. -/
theorem gt_start (w w3 : World) (fr : Int) (ht : w3.there w.heap.size 0 26) (hs : w.heap.size + 2 ≤ w3.heap.size) (hb : Below w.heap.size w w3) : GT w w3.heap.size fr (.slice none 0 0) 0 (fun _ _ => 0) (fun _ => 0) (w3.alloc (Obj.cells (entL fr (.slice none 0 0) (fun _ => 0)).toArray 37)) := by
  have e1 := entAt_new fr (.slice none 0 0) (fun _ => 0) 37 w3
  refine ⟨hs, there_block ht (Below.heap_alloc w3 _ _ (by omega)), e1, fun j hj => ?_, World.ownsRow_nil _ _ _ _, hb.alloc hb.size _⟩
  rw [e1.cell j hj, Nat.zero_add, World.frozen?_alloc_new]
  exact ⟨rfl, rfl⟩
theorem there_new (w : World) : (w.alloc (Obj.cells (entL 0 (.slice none 0 0) (fun _ => 0)).toArray 37)).there w.heap.size 0 26 := fun j hj => by
  have e1 := entAt_new 0 (.slice none 0 0) (fun _ => 0) 37 w
  rw [e1.cell j hj, Nat.zero_add, World.frozen?_alloc_new]
  exact ⟨rfl, rfl⟩
theorem RG.new (w : World) (l : List Int) (R : Nat) (hR : w.heap.size = R) : RG (w.alloc (Obj.cells #[.string (strOfNums l), .bool false] 85)) R l false := by
  subst hR
  refine ⟨?_, ?_, ?_, ?_⟩
  · rw [World.cell?_alloc_new]; rfl
  · rw [World.cell?_alloc_new]; rfl
  · rw [World.frozen?_alloc_new]
  · rw [World.frozen?_alloc_new]
theorem GT.app {w wr w' : World} {b5 : Nat} {fr : Int} {sv sv' : Value} {m m' : Nat} {E E' : Nat → Nat → Int} {I : Nat → Int} (h : GT w b5 fr sv m E I wr) (hb : Below (b5 + 1) wr w') (ho : OwnE w' (b5 + 1) sv' m' E') : GT w b5 fr sv' m' E' I (w'.setCell ⟨b5, 1, none⟩ sv') := by
  have hg := h.g5
  have hO := (Only.refl b5 w').setCell (p := ⟨b5, 1, none⟩) rfl sv'
  exact ⟨hg, there_block (there_block h.th2 (hb.block _ (by omega))) (hO.block _ (by omega)), (h.ent.block (hb.block _ (by omega))).set 1 (fun j _ => by
    unfold entF
    by_cases h0 : j = 0
    · rw [if_pos h0, if_pos h0, if_neg (by omega)]
    · rw [if_neg h0, if_neg h0]; split <;> rfl), there_set (there_block h.th5 (hb.block _ (by omega))), ho.other hO (by omega), (h.bel.trans (hb.mono (by omega))).trans (hO.below (by omega))⟩
end Go.Proofs.Ytembppihfcclcaa
