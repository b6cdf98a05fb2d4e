/-
  Entry: Get's inputs, in plain words.
-/
import Derived.Test.YtembppihfcclcaaK0
namespace Go.Proofs.Ytembppihfcclcaa
set_option linter.unusedVariables false
open Go.ChangeShapes Go.WideShapes Go.ChangeAt Go.RowKit

theorem gM_lt {bs : List Int} (h : ByteL bs) : gM bs < 256 := by
  have := h (5 + 5 * gN bs)
  unfold gM
  omega
theorem bit_test (M s : Nat) (hM : M < 256) (hs : s < 8) : (bits .and .i64 ((M : Int) / 2 ^ s) 1 == 1) = M.testBit s := by
  have h0 : ∀ t : Nat, t < 8 → ∀ b : Nat, b < 256 → (bits .and .i64 ((b : Int) / 2 ^ t) 1 == 1) = b.testBit t := by
    decide +kernel
  exact h0 s hs M hM
theorem gcnt_yes (M s : Nat) (h : M.testBit s = true) : gcnt M (s + 1) = gcnt M s + 1 := by show (if M.testBit s then _ else _) = _; rw [if_pos h]
theorem gcnt_no (M s : Nat) (h : M.testBit s = false) : gcnt M (s + 1) = gcnt M s := by show (if M.testBit s then _ else _) = _; rw [if_neg (by simp [h])]
theorem gIs_no (bs : List Int) (s : Nat) (h : (gM bs).testBit s = false) : gIs bs (s + 1) = gIs bs s := by
  funext k
  unfold gIs
  by_cases h1 : k < 3 * s
  · rw [if_pos h1, if_pos (by omega)]
  · rw [if_neg h1]
    by_cases h2 : k < 3 * (s + 1)
    · rw [if_pos h2]
      unfold gI
      rw [show k / 3 = s by omega, if_neg (by simp [h])]
    · rw [if_neg h2]
theorem gIs_yes (bs : List Int) (s : Nat) (h : (gM bs).testBit s = true) : gIs bs (s + 1) = updI (updI (updI (gIs bs s) (s * 3) (sgn (zz bs (6 + 5 * gN bs + 3 * gcnt (gM bs) s)))) (s * 3 + 1) (sgn (zz bs (6 + 5 * gN bs + 3 * gcnt (gM bs) s + 1)))) (s * 3 + 2) (zz bs (6 + 5 * gN bs + 3 * gcnt (gM bs) s + 2)) := by
  funext k
  unfold gIs updI
  by_cases h1 : k < 3 * s
  · rw [if_pos (by omega), if_neg (by omega), if_neg (by omega), if_neg (by omega)]
    show _ = if k < 3 * s then gI bs k else 0
    rw [if_pos h1]
  · by_cases h2 : k < 3 * (s + 1)
    · rw [if_pos h2]
      unfold gI
      rw [show k / 3 = s by omega, if_pos h]
      rcases (by omega : k = s * 3 ∨ k = s * 3 + 1 ∨ k = s * 3 + 2) with e | e | e
      · rw [if_neg (show ¬ (k % 3 = 2) by omega), if_neg (show ¬ (k = s * 3 + 2) by omega), if_neg (show ¬ (k = s * 3 + 1) by omega), if_pos e, show k % 3 = 0 by omega]; rfl
      · rw [if_neg (show ¬ (k % 3 = 2) by omega), if_neg (show ¬ (k = s * 3 + 2) by omega), if_pos e, show k % 3 = 1 by omega]
      · rw [if_pos (show k % 3 = 2 by omega), if_pos e, show k % 3 = 2 by omega]
    · rw [if_neg h2, if_neg (by omega), if_neg (by omega), if_neg (by omega)]
      show _ = if k < 3 * s then gI bs k else 0
      rw [if_neg h1]
theorem GS.set3 {w wr : World} {bs : List Int} {b o C i m : Nat} {fr : Int} {sv : Value} {E : Nat → Nat → Int} {I : Nat → Int} (h : GS w bs b o C i fr sv m E I wr) (s : Nat) (hs : s < 8) (x y z : Int) :
    GS w bs b o C i fr sv m E (updI (updI (updI I (s * 3) x) (s * 3 + 1) y) (s * 3 + 2) z) (((wr.setCell ⟨w.heap.size, 2 + s * 3, none⟩ (.int .i8 x)).setCell ⟨w.heap.size, 2 + s * 3 + 1, none⟩ (.int .i8 y)).setCell ⟨w.heap.size, 2 + s * 3 + 2, none⟩ (.int .u8 z)) := by
  have h1 := h.setIn (s * 3) (by omega) x
  rw [if_neg (show ¬ (s * 3 % 3 = 2) by omega)] at h1
  have h2 := h1.setIn (s * 3 + 1) (by omega) y
  rw [if_neg (show ¬ ((s * 3 + 1) % 3 = 2) by omega)] at h2
  have h3 := h2.setIn (s * 3 + 2) (by omega) z
  rw [if_pos (show (s * 3 + 2) % 3 = 2 by omega)] at h3
  exact h3
theorem i8_sgn (x : Int) (h : 0 ≤ x ∧ x < 256) : IntKind.i8.wrap x = sgn x := by
  unfold sgn
  have e : IntKind.i8.wrap x = (x + 128) % 256 - 128 := by
    first | (simp [IntKind.wrap, IntKind.bits, IntKind.signed]; omega) | rfl
  rw [e]
  split <;> omega
theorem EntAt.congr {w : World} {b o : Nat} {fr : Int} {sv : Value} {I I' : Nat → Int} (h : EntAt w b o fr sv I) (he : ∀ k, k < 24 → I k = I' k) : EntAt w b o fr sv I' := by
  constructor
  intro k hk
  rw [h.cell k hk]
  unfold entF inpV
  split
  · rfl
  · split
    · rfl
    · rw [he (k - 2) (by omega)]
theorem GS.congr {w wr : World} {bs : List Int} {b o C i m : Nat} {fr : Int} {sv : Value} {E : Nat → Nat → Int} {I I' : Nat → Int} (h : GS w bs b o C i fr sv m E I wr) (he : ∀ k, k < 24 → I k = I' k) : GS w bs b o C i fr sv m E I' wr :=
  ⟨h.rd, h.ent.congr he, h.th, h.c3, h.f3, h.own, h.bel⟩
theorem gIs_all (bs : List Int) (k : Nat) (hk : k < 24) : gIs bs 8 k = gI bs k := by unfold gIs; rw [if_pos (by omega)]
theorem setCells_size (b : Nat) : ∀ (vs : List Value) (o : Nat) (w : World), (w.setCells b o vs).heap.size = w.heap.size
  | [], _, _ => rfl
  | v :: r, o, w => by
    rw [World.setCells, setCells_size b r]
    simp [World.setCell]
theorem GS.back {w wr : World} {bs : List Int} {b o C i m : Nat} {fr : Int} {sv : Value} {E : Nat → Nat → Int} {I : Nat → Int} (h : GS w bs b o C i fr sv m E I wr) : GS w bs b o C i fr sv m E I (wr.setCells w.heap.size 0 (entL fr sv I)) := by
  have hb := below_setCells w.heap.size (Nat.le_refl _) (entL fr sv I) 0 (Below.refl w.heap.size wr)
  have hk := fun k (hk : k ≠ w.heap.size) => setCells_other w.heap.size k hk (entL fr sv I) 0 wr
  have hO : Only w.heap.size wr (wr.setCells w.heap.size 0 (entL fr sv I)) := ⟨hb.os, hb.tape, hb.output, setCells_size _ _ _ _, hk⟩
  have e1 := entAt_stored h.th fr sv I
  have t1 := there_setCells h.th fr sv I
  generalize wr.setCells w.heap.size 0 (entL fr sv I) = w2 at *
  exact ⟨h.rd.block (hk _ (by omega)), e1, t1, (World.cell?_of_block (hk (w.heap.size + 1) (by omega))).trans h.c3, (World.frozen?_of_block (hk (w.heap.size + 1) (by omega))).trans h.f3, h.own.other hO (by omega), h.bel.trans hb⟩
theorem GS.code {w wr : World} {bs : List Int} {b o C i m : Nat} {fr : Int} {sv : Value} {E : Nat → Nat → Int} {I : Nat → Int} (h : GS w bs b o C i fr sv m E I wr) : GS w bs b o C i fr sv m E I (wr.setCell ⟨w.heap.size + 1, 0, none⟩ (.int .i64 0)) := by
  have hO := (Only.refl (w.heap.size + 1) wr).setCell (p := ⟨w.heap.size + 1, 0, none⟩) rfl (.int .i64 0)
  exact ⟨h.rd.block (hO.block _ (by omega)), h.ent.block (hO.block _ (by omega)), there_block h.th (hO.block _ (by omega)), World.cell?_setCell_same _ _ _ h.c3, by rw [World.frozen?_setCell]; exact h.f3, h.own.other hO (by omega), h.bel.trans (hO.below (by omega))⟩
theorem putB_pos (fr : Int) (n : Nat) (E : Nat → Nat → Int) (I : Nat → Int) : 6 ≤ (putB fr n E I).length := by unfold putB; rw [putS_len]; omega
theorem store_ent_there (fr : Int) (sv : Value) (I : Nat → Int) (h1 : (entL fr sv I).toArray.all (·.oneCell') = true) (w : World) (b : Nat) (ht : w.there b 0 26) :
    (storeCells ⟨b, 0, none⟩ (entL fr sv I)).run Try.prog w = .ok () (w.setCells b 0 (entL fr sv I)) := by
  have := run_storeCells_cells (P := Try.prog) b 0 (entL fr sv I) 0 w (fun j hj => by rw [entL_len] at hj; simpa using (ht j hj).1) (fun j hj => by rw [entL_len] at hj; simpa using (ht j hj).2)
    (fun x hx => (Array.all_eq_true_iff_forall_mem.1 h1) x (by simpa using hx))
  simpa using this
end Go.Proofs.Ytembppihfcclcaa
