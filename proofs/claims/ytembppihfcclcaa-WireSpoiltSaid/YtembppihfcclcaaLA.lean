/-
  Wire: WireBurst: four bytes, one behind the other, of which one at least is turned, have another sum.
-/
import Derived.Test.YtembppihfcclcaaMU
import Derived.Test.YtembppihfcclcaaP1
namespace Go.Proofs.Ytembppihfcclcaa
set_option linter.unusedVariables false
open Go.ChangeShapes Go.WideShapes Go.ChangeAt Go.RowKit

set_option linter.unusedSimpArgs false
def IsBs (w : World) (v : Value) : Prop := ∃ bs, BytesV w v bs ∧ ByteL bs
set_option maxRecDepth 100000 in
theorem open_bs {H : Type} {enc : TypeId × Value → H} {W : World} {b0 : Nat} {x : Value} {d : DataW H} {p : List MemPlace} (hv : Value.okWide Try.prog W .any b0 28 x) (h : DataW.Trod enc Try.prog W 0 (fun _ => true) true 28 x d p) : IsBs W x := by
  obtain ⟨a, len, cap, rfl, h1, h2, h3⟩ := open_rows [.u8] Try.underlying28 (by kernel_rfl) (by decide) (by kernel_rfl) hv h
  by_cases h0 : 0 < len
  · obtain ⟨b, o, z, e, hb, hc⟩ := h3 h0
    have hl : ((List.range len).map (fun i => z i 0)).length = len := by rw [List.length_map, List.length_range]
    have hz : ∀ i, i < len → ((List.range len).map (fun i => z i 0)).getD i 0 = z i 0 := fun i hi => by
      rw [List.getD_eq_getElem?_getD, List.getElem?_map, List.getElem?_range hi]; rfl
    refine ⟨(List.range len).map (fun i => z i 0), ⟨a, cap, by rw [hl], by omega, h2, fun _ => ⟨b, o, e, hb, fun i hi => ?_⟩⟩, ?_⟩
    · rw [hl] at hi
      rw [hz i hi]
      have := (hc i hi 0 .u8 rfl).1
      simpa using this
    · rw [byteL_iff]
      intro x hx
      rw [List.mem_map] at hx
      obtain ⟨i, hi, rfl⟩ := hx
      have := (hc i (List.mem_range.1 hi) 0 .u8 rfl).2
      simp [IntKind.min, IntKind.max, IntKind.bits, IntKind.signed] at this
      omega
  · obtain rfl : len = 0 := by omega
    exact ⟨[], ⟨a, cap, rfl, h1, h2, fun h => absurd h (by simp)⟩, fun i => by unfold zz; simp⟩
theorem xor_nat8 (a b : Int) (ha : 0 ≤ a ∧ a < 256) (hb : 0 ≤ b ∧ b < 256) : bits .xor .u8 a b = ((a.toNat ^^^ b.toNat : Nat) : Int) := by
  obtain ⟨x, rfl⟩ : ∃ x : Nat, a = x := ⟨a.toNat, by omega⟩
  obtain ⟨y, rfl⟩ : ∃ y : Nat, b = y := ⟨b.toNat, by omega⟩
  have hx : x < 2 ^ 8 := by have := ha.2; show x < 256; omega
  have hy : y < 2 ^ 8 := by have := hb.2; show y < 256; omega
  have hxy := Nat.xor_lt_two_pow hx hy
  have h1 : x % 2 ^ IntKind.u8.bits = x := Nat.mod_eq_of_lt hx
  have h2 : y % 2 ^ IntKind.u8.bits = y := Nat.mod_eq_of_lt hy
  simp only [bits, BitVec.ofInt_natCast, BitVec.toNat_xor, BitVec.toNat_ofNat, h1, h2, Int.toNat_natCast]
  generalize x ^^^ y = q at *
  simp [IntKind.wrap, IntKind.bits, IntKind.signed]
  omega
/-- The i-th byte of a number of 32 bits. -/
def tB (t : Int) (i : Nat) : Int := t / 256 ^ i % 256
/-- The first i bytes of four turned. -/
def turn (bs : List Int) (k : Nat) (t : Int) : Nat → List Int
  | 0 => bs
  | i + 1 => (turn bs k t i).set (k + i) (bits .xor .u8 (zz bs (k + i)) (tB t i))
theorem turn_len (bs : List Int) (k : Nat) (t : Int) : ∀ i, (turn bs k t i).length = bs.length
  | 0 => rfl
  | i + 1 => by unfold turn; rw [List.length_set, turn_len bs k t i]
theorem zz_set (bs : List Int) (j i : Nat) (x : Int) (hj : j < bs.length) : zz (bs.set j x) i = if i = j then x else zz bs i := by
  unfold zz
  rw [List.getD_eq_getElem?_getD, List.getD_eq_getElem?_getD]
  by_cases e : i = j
  · subst e
    rw [if_pos rfl, List.getElem?_set_self hj]; rfl
  · rw [if_neg e, List.getElem?_set_ne (fun h => e h.symm)]
theorem turn_zz (bs : List Int) (k : Nat) (t : Int) : ∀ i, k + i ≤ bs.length → ∀ j, zz (turn bs k t i) j = if k ≤ j ∧ j < k + i then bits .xor .u8 (zz bs j) (tB t (j - k)) else zz bs j
  | 0, _, j => by rw [if_neg (by omega)]; rfl
  | i + 1, h, j => by
    unfold turn
    rw [zz_set _ _ _ _ (by rw [turn_len]; omega), turn_zz bs k t i (by omega) j]
    by_cases e : j = k + i
    · subst e
      rw [if_pos rfl, if_pos (by omega), show k + i - k = i by omega]
    · rw [if_neg e]
      by_cases e2 : k ≤ j ∧ j < k + i
      · rw [if_pos e2, if_pos (by omega)]
      · rw [if_neg e2, if_neg (by omega)]
theorem tB_bd (t : Int) (i : Nat) : 0 ≤ tB t i ∧ tB t i < 256 := by
  unfold tB
  exact ⟨Int.emod_nonneg _ (by omega), Int.emod_lt_of_pos _ (by omega)⟩
theorem turn_by {bs : List Int} (h : ByteL bs) (k : Nat) (t : Int) (i : Nat) (hk : k + i ≤ bs.length) : ByteL (turn bs k t i) := by
  intro j
  rw [turn_zz bs k t i hk j]
  split
  · exact (xor_u8 _ _ (h j) (tB_bd t _)).1
  · exact h j
theorem turned_sum {bs : List Int} (h : ByteL bs) (k : Nat) (t : Int) (hk : k + 4 ≤ bs.length) (ht0 : 0 ≤ t) (ht : t < 4294967296) (hn : t ≠ 0) : crc bs bs.length ≠ crc (turn bs k t 4) (turn bs k t 4).length := by
  rw [turn_len]
  have hz := turn_zz bs k t 4 hk
  have hx : ∀ i, i < 4 → (zz (turn bs k t 4) (k + i)).toNat = (zz bs (k + i)).toNat ^^^ (tB t i).toNat := fun i hi => by
    rw [hz (k + i), if_pos (by omega), show k + i - k = i by omega, xor_nat8 _ _ (h _) (tB_bd t i)]; rfl
  have b0 := tB_bd t 0
  have b1 := tB_bd t 1
  have b2 := tB_bd t 2
  have b3 := tB_bd t 3
  refine crc_four h (turn_by h k t 4 hk) k bs.length (tB t 0).toNat (tB t 1).toNat (tB t 2).toNat (tB t 3).toNat hk (by omega) (by omega) (by omega) (by omega) (hx 0 (by omega)) (hx 1 (by omega)) (hx 2 (by omega)) (hx 3 (by omega)) ?_ (fun i hi hi2 => ?_)
  · have e0 : tB t 0 = t / 1 % 256 := rfl
    have e1 : tB t 1 = t / 256 % 256 := rfl
    have e2 : tB t 2 = t / 65536 % 256 := rfl
    have e3 : tB t 3 = t / 16777216 % 256 := rfl
    omega
  · rw [hz i, if_neg (by omega)]
end Go.Proofs.Ytembppihfcclcaa
