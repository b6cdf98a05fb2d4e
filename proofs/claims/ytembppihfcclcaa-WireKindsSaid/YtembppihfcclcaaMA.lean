/-
  Wire: the check of bytes.
-/
import Derived.Test.YtembppihfcclcaaU
import Derived.Test.YtembppihfcclcaaL
namespace Go.Proofs.Ytembppihfcclcaa
set_option linter.unusedVariables false
open Go.ChangeShapes Go.WideShapes Go.ChangeAt Go.RowKit

set_option linter.unusedSimpArgs false
def cst (c : Nat) : Nat := (c * 2 % 4294967296) ^^^ (c / 2147483648 * 1947962583)
def cst8 : Nat → Nat → Nat
  | 0, c => c
  | n + 1, c => cst (cst8 n c)
def crc (bs : List Int) : Nat → Nat
  | 0 => 4294967295
  | n + 1 => cst8 8 (crc bs n ^^^ ((zz bs n).toNat * 16777216))
theorem cst_lt (c : Nat) (h : c < 4294967296) : cst c < 4294967296 := by
  unfold cst
  exact Nat.xor_lt_two_pow (n := 32) (by omega) (by omega)
theorem cst8_lt : ∀ n c, c < 4294967296 → cst8 n c < 4294967296
  | 0, c, h => h
  | n + 1, c, h => cst_lt _ (cst8_lt n c h)
theorem crc_lt (bs : List Int) (hby : ByteL bs) : ∀ n, crc bs n < 4294967296
  | 0 => by show 4294967295 < _; omega
  | n + 1 => cst8_lt 8 _ (Nat.xor_lt_two_pow (n := 32) (crc_lt bs hby n) (by have := hby n; omega))
theorem xor_u32 (a b : Nat) (ha : a < 4294967296) (hb : b < 4294967296) : bits .xor .u32 (a : Int) (b : Int) = ((a ^^^ b : Nat) : Int) := by
  have hx : a < 2 ^ 32 := ha
  have hy : b < 2 ^ 32 := hb
  have hxy := Nat.xor_lt_two_pow hx hy
  have h1 : a % 2 ^ IntKind.u32.bits = a := Nat.mod_eq_of_lt hx
  have h2 : b % 2 ^ IntKind.u32.bits = b := Nat.mod_eq_of_lt hy
  simp only [bits, BitVec.ofInt_natCast, BitVec.toNat_xor, BitVec.toNat_ofNat, h1, h2]
  generalize a ^^^ b = q at *
  simp [IntKind.wrap, IntKind.bits, IntKind.signed]
  omega
theorem cst_xor (c : Nat) (h : c < 4294967296) : bits .xor .u32 ((c : Int) * 2 % 4294967296) ((c : Int) / 2147483648 * 1947962583) = (cst c : Nat) := by
  have := xor_u32 (c * 2 % 4294967296) (c / 2147483648 * 1947962583) (by omega) (by omega)
  unfold cst
  rw [← this]
  have e1 : ((c * 2 % 4294967296 : Nat) : Int) = (c : Int) * 2 % 4294967296 := by omega
  have e2 : ((c / 2147483648 * 1947962583 : Nat) : Int) = (c : Int) / 2147483648 * 1947962583 := by omega
  rw [e1, e2]
set_option maxHeartbeats 1000000 in
theorem check_any (v : Value) (bs : List Int) (w : World) (h : BytesV w v bs) (hby : ByteL bs) :
    Calls Try.prog 24 #[v] w fun e w' => e = .returned (.int .u32 (crc bs bs.length)) ∧ Below w.heap.size w w' := by
  obtain ⟨a, cap, rfl, hnc, hcm, hev⟩ := h
  unfold maxLen at hcm
  have HEV := Lib.hid hev
  have HBY := Lib.hid hby
  clear hev hby
  go_enter Try.func24, Try.ntmps24
  go_wp2_with fail
  go_loopw [3, 9] (fun c i wr => ∃ k : Nat, k ≤ bs.length ∧ i = .int .i64 k ∧ c = .int .u32 (crc bs k : Nat) ∧ Below w.heap.size w wr) (fun _ i _ => bs.length - (intOf i).toNat)
  case atStart => exact ⟨0, by omega, rfl, rfl, Below.refl _ _⟩
  case round =>
    obtain ⟨k, hk, rfl, rfl, hB⟩ := hrel
    have HB := Lib.hid hB
    by_cases hlt : k < bs.length
    · obtain ⟨b, o, rfl, hbl, hin⟩ := HEV.out (by omega)
      have d0 := (hin.block (hB.block b hbl)) k hlt
      have hki : (k : Int) < (bs.length : Int) := by omega
      have HN : Hid (crc bs (k + 1) = cst8 8 (crc bs k ^^^ ((zz bs k).toNat * 16777216))) := Lib.hid rfl
      have hx := HBY.out k
      have hd : bs.getD k 0 = zz bs k := rfl
      rw [hd] at d0
      have hc := crc_lt bs HBY.out k
      have hxor := xor_u32 (crc bs k) ((zz bs k).toNat * 16777216) hc (by omega)
      have hsh : (((zz bs k).toNat * 16777216 : Nat) : Int) = zz bs k * 16777216 := by omega
      rw [hsh] at hxor
      have HC0 := Lib.hid (Nat.xor_lt_two_pow (n := 32) hc (show (zz bs k).toNat * 16777216 < 2 ^ 32 by omega))
      generalize zz bs k = x at *
      generalize crc bs k = c at *
      generalize (c ^^^ (x.toNat * 16777216)) = c0 at *
      clear hB hin hsh hd
      go_wp2_with fail
      clear d0 hxor
      go_loopw [3, 18] (fun c i wr' => wr' = wr ∧ ∃ m : Nat, m ≤ 8 ∧ i = .int .i64 m ∧ c = .int .u32 (cst8 m c0 : Nat)) (fun _ i _ => 8 - (intOf i).toNat)
      case atStart => exact ⟨rfl, 0, by omega, rfl, rfl⟩
      case round =>
        obtain ⟨rfl, m, hm, rfl, rfl⟩ := hrel
        by_cases hlt8 : m < 8
        · have hc1 := cst8_lt m c0 HC0.out
          have HN1 : Hid (cst8 (m + 1) c0 = cst (cst8 m c0)) := Lib.hid rfl
          have hx2 := cst_xor (cst8 m c0) hc1
          generalize cst (cst8 m c0) = c2 at *
          generalize cst8 m c0 = c1 at *
          go_wp2_with fail
          exact ⟨⟨by first | rfl | trivial, m + 1, by omega, by go_num, by rw [HN1.out]⟩, by simp [intOf]; omega⟩
        · obtain rfl : m = 8 := by omega
          go_wp2_with fail
          exact ⟨⟨k + 1, by omega, by go_num, by rw [HN.out], HB.out⟩, by simp [intOf]; omega⟩
    · obtain rfl : k = bs.length := by omega
      go_wp2_with fail
      go_ret
      exact ⟨rfl, hB⟩
end Go.Proofs.Ytembppihfcclcaa
