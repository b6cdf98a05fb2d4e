/-
  Entry: the reference's Num, PutInput.
-/
import Derived.Test.YtembppihfcclcaaU
namespace Go.Proofs.Ytembppihfcclcaa
set_option linter.unusedVariables false
open Go.ChangeShapes Go.WideShapes Go.ChangeAt Go.RowKit

set_option linter.unusedSimpArgs false
def leR (v : Int) : Nat → List Int
  | 0 => []
  | k + 1 => leR v k ++ [v / 2 ^ (8 * k) % 256]
theorem leR_len (v : Int) : ∀ n, (leR v n).length = n
  | 0 => rfl
  | n + 1 => by unfold leR; rw [List.length_append, leR_len v n]; rfl
set_option maxHeartbeats 1000000 in
theorem numR_any (v : Int) (n : Nat) (hv : 0 ≤ v ∧ v < 18446744073709551616) (hn : 0 < n ∧ n ≤ 4) (w : World) :
    Calls Try.prog 18 #[.int .u64 v, .int .i64 n] w fun e w' => e = .returned (.string (strOfNums (leR v n))) ∧ Below w.heap.size w w' := by
  have hO : OwnB w w.heap.size (.slice none 0 0) (leR v 0) := World.ownsRow_nil _ _ _ _
  go_enter Try.func18, Try.ntmps18
  go_wp2_with fail
  go_loopw [5, 6] (fun o i wr => ∃ k : Nat, k ≤ n ∧ i = .int .i64 k ∧ OwnB wr w.heap.size o (leR v k) ∧ Below w.heap.size w wr) (fun _ i _ => n - (intOf i).toNat)
  case atStart => exact ⟨0, by omega, rfl, hO, Below.refl _ _⟩
  case round =>
    obtain ⟨k, hk, rfl, hO, hB⟩ := hrel
    have HO := Lib.hid hO
    have HB := Lib.hid hB
    clear hO
    by_cases hlt : k < n
    · have hki : (k : Int) < (n : Int) := by omega
      have hsz := hB.size
      clear hB
      have HN : Hid (leR v (k + 1) = leR v k ++ [v / 2 ^ (8 * k) % 256]) := Lib.hid rfl
      have hl : (leR v k).length + 1 ≤ 140737488355328 := by rw [leR_len]; omega
      go_wp2_with (at_builtin; refine step_app rfl (.tmp 12) (.tmp 19) rfl w.heap.size _ (leR v k) [v / 2 ^ (8 * k) % 256] wr rfl HO.out hsz 1 _ rfl rfl rfl hl ?_)
      intro v' w' hO' hb'
      rw [← HN.out] at hO'
      have HO2 := Lib.hid hO'
      have HB2 := Lib.hid (HB.out.trans hb')
      clear hO' hb' HO HB HN hl hsz
      go_wp2_with fail
      all_goals first | exact ⟨⟨k + 1, by omega, by go_num, HO2.out, HB2.out⟩, by simp [intOf]; omega⟩ | exact ⟨k + 1, by omega, by go_num, HO2.out, HB2.out⟩ | (simp [intOf]; omega) | go_roundw
    · obtain rfl : k = n := by omega
      have hc := conv_bytes (HO.out.bytes (by rw [leR_len]; omega)) (by rw [leR_len]; omega)
      clear hB
      go_wp2_with fail
      go_ret
      exact ⟨rfl, HB.out⟩
theorem strOfNums_cat (a b : List Int) : strOfNums a ++ strOfNums b = strOfNums (a ++ b) := by
  apply ByteArray.ext
  simp [strOfNums]
theorem putInput_any (x y z : Int) (hz : 0 ≤ z ∧ z ≤ 255) (w : World) :
    Calls Try.prog 55 #[.agg #[.int .i8 x, .int .i8 y, .int .u8 z]] w fun e w' => e = .returned (.string (strOfNums [x % 256, y % 256, z])) ∧ Below w.heap.size w w' := by
  have hz2 : z % 256 = z := by omega
  have hb := ((Below.refl w.heap.size w).alloc (Nat.le_refl _) (Obj.cells #[.int .i8 x, .int .i8 y, .int .u8 z] 34))
  have hO : OwnB ((w.alloc (Obj.cells #[.int .i8 x, .int .i8 y, .int .u8 z] 34)).alloc (Obj.cells #[.int .u8 (x % 256), .int .u8 (y % 256), .int .u8 z] 5)) (w.alloc (Obj.cells #[.int .i8 x, .int .i8 y, .int .u8 z] 34)).heap.size (.slice (some ⟨(w.alloc (Obj.cells #[.int .i8 x, .int .i8 y, .int .u8 z] 34)).heap.size, 0, none⟩) 3 3) [x % 256, y % 256, z] := OwnB.lit [x % 256, y % 256, z] (by unfold maxLen; simp)
  have hs : (w.alloc (Obj.cells #[.int .i8 x, .int .i8 y, .int .u8 z] 34)).heap.size = w.heap.size + 1 := by simp
  have hc := conv_bytes (hO.bytes (by simp)) (by simp)
  have hb2 := hb.alloc hb.size (Obj.cells #[.int .u8 (x % 256), .int .u8 (y % 256), .int .u8 z] 5)
  rw [hs] at hc
  clear hO hb
  go_enter Try.func55, Try.ntmps55
  go_wp2_with fail
  go_ret
  exact ⟨rfl, hb2⟩
end Go.Proofs.Ytembppihfcclcaa
