/-
  Wire: the reference's Check.
-/
import Derived.Test.YtembppihfcclcaaG09x
namespace Go.Proofs.Ytembppihfcclcaa
set_option linter.unusedVariables false
open Go.ChangeShapes Go.WideShapes Go.ChangeAt Go.RowKit

set_option linter.unusedSimpArgs false
theorem cst_hi (c : Nat) (h : c < 4294967296) (h1 : c / 2147483648 = 1) : bits .xor .u32 ((c : Int) * 2 % 4294967296) 1947962583 = (cst c : Nat) := by
  rw [← cst_xor c h]
  have : (c : Int) / 2147483648 = 1 := by omega
  rw [this]
  rfl
theorem cst_lo (c : Nat) (h1 : c / 2147483648 = 0) : (c : Int) * 2 % 4294967296 = (cst c : Nat) := by
  unfold cst
  rw [h1, Nat.zero_mul, Nat.xor_zero]
  omega
set_option maxHeartbeats 1000000 in
theorem checkRef_any (bs : List Int) (w : World) (hby : ByteL bs) (hm : bs.length ≤ 1000000) :
    Calls Try.prog 19 #[.string (strOfNums bs)] w fun e w' => e = .returned (.int .u32 (crc bs bs.length)) ∧ w' = w := by
  have HBY := Lib.hid hby
  have hsz : ((strOfNums bs).size : Int) = bs.length := by rw [strOfNums_size]
  clear hby
  go_enter Try.func19, Try.ntmps19
  go_wp2_with fail
  go_loopw [3, 4] (fun c i wr => ∃ k : Nat, k ≤ bs.length ∧ i = .int .i64 k ∧ c = .int .u32 (crc bs k : Nat) ∧ wr = w) (fun _ i _ => bs.length - (intOf i).toNat)
  case atStart => exact ⟨0, by omega, rfl, rfl, rfl⟩
  case round =>
    obtain ⟨k, hk, rfl, rfl, rfl⟩ := hrel
    by_cases hlt : k < bs.length
    · have hki : (k : Int) < ((strOfNums bs).size : Int) := by omega
      have HN : Hid (crc bs (k + 1) = cst8 8 (crc bs k ^^^ ((zz bs k).toNat * 16777216))) := Lib.hid rfl
      have hx := HBY.out k
      have hc := crc_lt bs HBY.out k
      have hxor := xor_u32 (crc bs k) ((zz bs k).toNat * 16777216) hc (by omega)
      have hsh : (((zz bs k).toNat * 16777216 : Nat) : Int) = zz bs k * 16777216 := by omega
      rw [hsh] at hxor
      have HC0 := Lib.hid (Nat.xor_lt_two_pow (n := 32) hc (show (zz bs k).toNat * 16777216 < 2 ^ 32 by omega))
      have HV : Hid (∀ h, bits .xor .u32 ((crc bs k : Nat) : Int) ((((strOfNums bs)[k]'h).toNat : Int) % 4294967296 * 16777216 % 4294967296) = ((crc bs k ^^^ ((zz bs k).toNat * 16777216) : Nat) : Int)) := Lib.hid (fun h => by
        rw [str_get bs HBY.out k h, ← hxor]
        have e : zz bs k % 4294967296 * 16777216 % 4294967296 = zz bs k * 16777216 := by omega
        rw [e])
      generalize (crc bs k ^^^ ((zz bs k).toNat * 16777216)) = c0 at *
      generalize crc bs k = c at *
      clear hsh hxor hc hx
      go_wp2_with fail
      rw [HV.out]
      clear HV
      go_loopw [3, 5] (fun c i wr' => wr' = wr ∧ ∃ m : Nat, m ≤ 8 ∧ i = .int .i64 m ∧ c = .int .u32 (cst8 m c0 : Nat)) (fun _ i _ => 8 - (intOf i).toNat)
      case atStart => exact ⟨rfl, 0, by omega, rfl, rfl⟩
      case round =>
        obtain ⟨rfl, m, hm8, rfl, rfl⟩ := hrel
        by_cases hlt8 : m < 8
        · have hc1 := cst8_lt m c0 HC0.out
          have HN1 : Hid (cst8 (m + 1) c0 = cst (cst8 m c0)) := Lib.hid rfl
          rcases (by omega : cst8 m c0 / 2147483648 = 1 ∨ cst8 m c0 / 2147483648 = 0) with h1 | h1
          · have hx2 := cst_hi (cst8 m c0) hc1 h1
            have h1' : (cst8 m c0 : Int) / 2147483648 = 1 := by omega
            generalize cst (cst8 m c0) = c2 at *
            generalize cst8 m c0 = c1 at *
            go_wp2_with fail
            exact ⟨⟨by first | rfl | trivial, m + 1, by omega, by go_num, by rw [HN1.out]⟩, by simp [intOf]; omega⟩
          · have hx2 := cst_lo (cst8 m c0) h1
            have h1' : (cst8 m c0 : Int) / 2147483648 = 0 := by omega
            generalize cst (cst8 m c0) = c2 at *
            generalize cst8 m c0 = c1 at *
            go_wp2_with fail
            exact ⟨⟨by first | rfl | trivial, m + 1, by omega, by go_num, by rw [HN1.out, ← hx2]; congr 1; omega⟩, by simp [intOf]; omega⟩
        · obtain rfl : m = 8 := by omega
          go_wp2_with fail
          exact ⟨⟨k + 1, by omega, by go_num, by rw [HN.out], by first | rfl | trivial⟩, by simp [intOf]; omega⟩
    · obtain rfl : k = bs.length := by omega
      have hki : ¬ ((bs.length : Int) < ((strOfNums bs).size : Int)) := by omega
      go_wp2_with fail
      go_ret
      exact ⟨rfl, rfl⟩
end Go.Proofs.Ytembppihfcclcaa
