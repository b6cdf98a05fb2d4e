/-
  Fixed point: the Go text of FixParts and FixMixes returns true for every input.
-/
import Derived.Test.YtikmlkfimphjiaaD
namespace Go.Proofs.Ytikmlkfimphjiaa
set_option linter.unusedVariables false
open Go.ChangeShapes Go.WideShapes Go.ChangeAt Go.RowKit

theorem left_facts (a b q : Int) (a0 : -2147483648 ≤ a) (a1 : a ≤ 2147483647) (b0 : -2147483648 ≤ b) (b1 : b ≤ 2147483647) (hb : b ≠ 0) (hq : q = (a * 65536).tdiv b) :
    (a * 65536 - q * b).natAbs < b.natAbs ∧ (0 < a * 65536 - q * b → 0 < a) ∧ (a * 65536 - q * b < 0 → a < 0) ∧ (q * b).natAbs ≤ 140737488355328 ∧ ((a * 65536 - q * b) * b).natAbs ≤ 4611686018427387904 ∧ ((a * 65536 - q * b) * b = 0 ↔ a * 65536 - q * b = 0) := by
  have e : a * 65536 - q * b = (a * 65536).tmod b := by
    have := Int.mul_tdiv_add_tmod (a * 65536) b
    rw [Int.mul_comm b] at this; rw [hq]; omega
  have h1 : (a * 65536 - q * b).natAbs < b.natAbs := by
    rw [e, Int.natAbs_tmod]; exact Nat.mod_lt _ (by omega)
  have h2 : (a * 65536 - q * b).natAbs ≤ (a * 65536).natAbs := by
    rw [e, Int.natAbs_tmod]; exact Nat.mod_le _ _
  have hs : 0 ≤ a * 65536 → 0 ≤ a * 65536 - q * b := fun h => by rw [e]; exact Int.tmod_nonneg _ h
  have hs2 : a * 65536 ≤ 0 → a * 65536 - q * b ≤ 0 := fun h => by
    rw [e]
    have := Int.tmod_nonneg b (a := -(a * 65536)) (by omega)
    rw [Int.neg_tmod] at this; omega
  generalize hL : a * 65536 - q * b = L at *
  refine ⟨h1, fun h => by omega, fun h => by omega, by omega, ?_, ?_⟩
  · rw [Int.natAbs_mul]
    have : L.natAbs * b.natAbs ≤ 2147483648 * 2147483648 := Nat.mul_le_mul (by omega) (by omega)
    omega
  · rw [Int.mul_eq_zero]
    constructor
    · rintro (h | h)
      · exact h
      · exact absurd h hb
    · exact Or.inl

set_option maxHeartbeats 1000000 in
theorem parts_z_p (a0 a1 : Int) (a00 : -2147483648 ≤ a0) (a01 : a0 ≤ 2147483647) (a10 : -2147483648 ≤ a1) (a11 : a1 ≤ 2147483647) (hp : 0 < a0) (hb : a1 = 0) (w : World) :
    Calls Try.prog 6 #[.int .i32 a0, .int .i32 a1] w fun e w' => e = .returned (.bool true) ∧ Below w.heap.size w w' := by
  have hbb : (a1 != 0) = false := by rw [bne_eq_false_iff_eq]; exact hb
  have Hb := Lib.hid hb
  clear hb
  go_enter Try.func6, Try.ntmps6
  go_wp2_with fail
  refine (root_pos _ _ (by omega) (by omega)).mono ?_
  rintro e w' ⟨⟨r, rfl, hr⟩, rfl⟩
  have r1 := root_small hr.1 hr.2.1 (by omega)
  obtain ⟨r0, r2, r3⟩ := hr
  have r4 : (r + 1) * (r + 1) ≤ 4611686018427387904 := Int.le_trans (sq_le (y := 16777217) (by omega) (by omega)) (by omega)
  have r5 : 0 ≤ r * r := Int.mul_nonneg r0 r0
  go_wp2_with fail
  refine (told_law _).mono ?_
  rintro e w' ⟨rfl, rfl⟩
  go_wp2_with fail
  go_ret
  exact ⟨rfl, below_drew _⟩
set_option maxHeartbeats 1000000 in
theorem parts_hi_p (a0 a1 : Int) (a00 : -2147483648 ≤ a0) (a01 : a0 ≤ 2147483647) (a10 : -2147483648 ≤ a1) (a11 : a1 ≤ 2147483647) (hp : 0 < a0) (hb : a1 ≠ 0) (hq : cl (divV a0 a1) = 2147483647) (w : World) :
    Calls Try.prog 6 #[.int .i32 a0, .int .i32 a1] w fun e w' => e = .returned (.bool true) ∧ Below w.heap.size w w' := by
  have hbb : (a1 != 0) = true := by rw [bne_iff_ne]; exact hb
  have Q := Lib.hid hq
  clear hb hq
  go_enter Try.func6, Try.ntmps6
  go_wp2_with fail
  refine (div_any _ _ _ (by omega) (by omega) (by omega) (by omega)).mono ?_
  rintro e w' ⟨rfl, rfl⟩
  rw [Q.out]
  go_wp2_with fail
  refine (root_pos _ _ (by omega) (by omega)).mono ?_
  rintro e w' ⟨⟨r, rfl, hr⟩, rfl⟩
  have r1 := root_small hr.1 hr.2.1 (by omega)
  obtain ⟨r0, r2, r3⟩ := hr
  have r4 : (r + 1) * (r + 1) ≤ 4611686018427387904 := Int.le_trans (sq_le (y := 16777217) (by omega) (by omega)) (by omega)
  have r5 : 0 ≤ r * r := Int.mul_nonneg r0 r0
  go_wp2_with fail
  refine (told_law _).mono ?_
  rintro e w' ⟨rfl, rfl⟩
  go_wp2_with fail
  go_ret
  exact ⟨rfl, below_drew _⟩
set_option maxHeartbeats 1000000 in
theorem parts_lo_p (a0 a1 : Int) (a00 : -2147483648 ≤ a0) (a01 : a0 ≤ 2147483647) (a10 : -2147483648 ≤ a1) (a11 : a1 ≤ 2147483647) (hp : 0 < a0) (hb : a1 ≠ 0) (hq : cl (divV a0 a1) = -2147483648) (w : World) :
    Calls Try.prog 6 #[.int .i32 a0, .int .i32 a1] w fun e w' => e = .returned (.bool true) ∧ Below w.heap.size w w' := by
  have hbb : (a1 != 0) = true := by rw [bne_iff_ne]; exact hb
  have Q := Lib.hid hq
  clear hb hq
  go_enter Try.func6, Try.ntmps6
  go_wp2_with fail
  refine (div_any _ _ _ (by omega) (by omega) (by omega) (by omega)).mono ?_
  rintro e w' ⟨rfl, rfl⟩
  rw [Q.out]
  go_wp2_with fail
  refine (root_pos _ _ (by omega) (by omega)).mono ?_
  rintro e w' ⟨⟨r, rfl, hr⟩, rfl⟩
  have r1 := root_small hr.1 hr.2.1 (by omega)
  obtain ⟨r0, r2, r3⟩ := hr
  have r4 : (r + 1) * (r + 1) ≤ 4611686018427387904 := Int.le_trans (sq_le (y := 16777217) (by omega) (by omega)) (by omega)
  have r5 : 0 ≤ r * r := Int.mul_nonneg r0 r0
  go_wp2_with fail
  refine (told_law _).mono ?_
  rintro e w' ⟨rfl, rfl⟩
  go_wp2_with fail
  go_ret
  exact ⟨rfl, below_drew _⟩
set_option maxHeartbeats 1000000 in
theorem parts_zero_p (a0 a1 : Int) (a00 : -2147483648 ≤ a0) (a01 : a0 ≤ 2147483647) (a10 : -2147483648 ≤ a1) (a11 : a1 ≤ 2147483647) (hp : 0 < a0) (q : Int) (hb : a1 ≠ 0) (he : q = (a0 * 65536).tdiv a1) (hq : cl (divV a0 a1) = q) (q0 : -2147483648 < q) (q1 : q < 2147483647) (hz : a0 * 65536 - q * a1 = 0) (w : World) :
    Calls Try.prog 6 #[.int .i32 a0, .int .i32 a1] w fun e w' => e = .returned (.bool true) ∧ Below w.heap.size w w' := by
  obtain ⟨f1, f2, f3, f4, f5, f6⟩ := left_facts a0 a1 q a00 a01 a10 a11 hb he
  have hbb : (a1 != 0) = true := by rw [bne_iff_ne]; exact hb
  have Q := Lib.hid hq
  have hn1 : ((a1.natAbs : Nat) : Int) ≤ 2147483648 := by omega
  have hn0 : 0 ≤ ((a1.natAbs : Nat) : Int) := by omega
  have p1 : -140737488355328 ≤ q * a1 := by omega
  have p2 : q * a1 ≤ 140737488355328 := by omega
  have p3 : -4611686018427387904 ≤ (a0 * 65536 - q * a1) * a1 := by omega
  have p4 : (a0 * 65536 - q * a1) * a1 ≤ 4611686018427387904 := by omega
  have p5 : a0 * 65536 - q * a1 < ((a1.natAbs : Nat) : Int) := by omega
  have p6 : -((a1.natAbs : Nat) : Int) < a0 * 65536 - q * a1 := by omega
  have z1 : ((a0 * 65536 - q * a1) * a1 != 0) = false := by rw [bne_eq_false_iff_eq]; exact f6.2 hz
  have He := Lib.hid he
  have HZ := Lib.hid hz
  clear f1 f2 f3 f4 f5 f6 hb hq he hz
  go_enter Try.func6, Try.ntmps6
  go_wp2_with fail
  refine (div_any _ _ _ (by omega) (by omega) (by omega) (by omega)).mono ?_
  rintro e w' ⟨rfl, rfl⟩
  rw [Q.out]
  go_wp2_with fail
  refine (size_any _ _ (by omega) (by omega)).mono ?_
  rintro e w' ⟨rfl, rfl⟩
  go_wp2_with fail
  refine (size_any _ _ (by omega) (by omega)).mono ?_
  rintro e w' ⟨rfl, rfl⟩
  go_wp2_with fail
  refine (root_pos _ _ (by omega) (by omega)).mono ?_
  rintro e w' ⟨⟨r, rfl, hr⟩, rfl⟩
  have r1 := root_small hr.1 hr.2.1 (by omega)
  obtain ⟨r0, r2, r3⟩ := hr
  have r4 : (r + 1) * (r + 1) ≤ 4611686018427387904 := Int.le_trans (sq_le (y := 16777217) (by omega) (by omega)) (by omega)
  have r5 : 0 ≤ r * r := Int.mul_nonneg r0 r0
  go_wp2_with fail
  refine (told_law _).mono ?_
  rintro e w' ⟨rfl, rfl⟩
  go_wp2_with fail
  go_ret
  exact ⟨rfl, below_drew _⟩
set_option maxHeartbeats 1000000 in
theorem parts_some_p (a0 a1 : Int) (a00 : -2147483648 ≤ a0) (a01 : a0 ≤ 2147483647) (a10 : -2147483648 ≤ a1) (a11 : a1 ≤ 2147483647) (hp : 0 < a0) (q : Int) (hb : a1 ≠ 0) (he : q = (a0 * 65536).tdiv a1) (hq : cl (divV a0 a1) = q) (q0 : -2147483648 < q) (q1 : q < 2147483647) (hz : a0 * 65536 - q * a1 ≠ 0) (w : World) :
    Calls Try.prog 6 #[.int .i32 a0, .int .i32 a1] w fun e w' => e = .returned (.bool true) ∧ Below w.heap.size w w' := by
  obtain ⟨f1, f2, f3, f4, f5, f6⟩ := left_facts a0 a1 q a00 a01 a10 a11 hb he
  have hbb : (a1 != 0) = true := by rw [bne_iff_ne]; exact hb
  have Q := Lib.hid hq
  have hn1 : ((a1.natAbs : Nat) : Int) ≤ 2147483648 := by omega
  have hn0 : 0 ≤ ((a1.natAbs : Nat) : Int) := by omega
  have p1 : -140737488355328 ≤ q * a1 := by omega
  have p2 : q * a1 ≤ 140737488355328 := by omega
  have p3 : -4611686018427387904 ≤ (a0 * 65536 - q * a1) * a1 := by omega
  have p4 : (a0 * 65536 - q * a1) * a1 ≤ 4611686018427387904 := by omega
  have p5 : a0 * 65536 - q * a1 < ((a1.natAbs : Nat) : Int) := by omega
  have p6 : -((a1.natAbs : Nat) : Int) < a0 * 65536 - q * a1 := by omega
  have z1 : ((a0 * 65536 - q * a1) * a1 != 0) = true := by rw [bne_iff_ne]; exact fun h => hz (f6.1 h)
  have z2 : decide (a0 * 65536 - q * a1 < 0) = false := by simp; omega
  have z3 : decide (a0 < 0) = false := by simp; omega
  have He := Lib.hid he
  have HZ := Lib.hid hz
  clear f1 f2 f3 f4 f5 f6 hb hq he hz
  go_enter Try.func6, Try.ntmps6
  go_wp2_with fail
  refine (div_any _ _ _ (by omega) (by omega) (by omega) (by omega)).mono ?_
  rintro e w' ⟨rfl, rfl⟩
  rw [Q.out]
  go_wp2_with fail
  refine (size_any _ _ (by omega) (by omega)).mono ?_
  rintro e w' ⟨rfl, rfl⟩
  go_wp2_with fail
  refine (size_any _ _ (by omega) (by omega)).mono ?_
  rintro e w' ⟨rfl, rfl⟩
  go_wp2_with fail
  refine (root_pos _ _ (by omega) (by omega)).mono ?_
  rintro e w' ⟨⟨r, rfl, hr⟩, rfl⟩
  have r1 := root_small hr.1 hr.2.1 (by omega)
  obtain ⟨r0, r2, r3⟩ := hr
  have r4 : (r + 1) * (r + 1) ≤ 4611686018427387904 := Int.le_trans (sq_le (y := 16777217) (by omega) (by omega)) (by omega)
  have r5 : 0 ≤ r * r := Int.mul_nonneg r0 r0
  go_wp2_with fail
  refine (told_law _).mono ?_
  rintro e w' ⟨rfl, rfl⟩
  go_wp2_with fail
  go_ret
  exact ⟨rfl, below_drew _⟩
set_option maxHeartbeats 1000000 in
theorem parts_z_n (a0 a1 : Int) (a00 : -2147483648 ≤ a0) (a01 : a0 ≤ 2147483647) (a10 : -2147483648 ≤ a1) (a11 : a1 ≤ 2147483647) (hp : a0 ≤ 0) (hb : a1 = 0) (w : World) :
    Calls Try.prog 6 #[.int .i32 a0, .int .i32 a1] w fun e w' => e = .returned (.bool true) ∧ Below w.heap.size w w' := by
  have hbb : (a1 != 0) = false := by rw [bne_eq_false_iff_eq]; exact hb
  have Hb := Lib.hid hb
  clear hb
  go_enter Try.func6, Try.ntmps6
  go_wp2_with fail
  refine (root_zero _ _ (by omega)).mono ?_
  rintro e w' ⟨rfl, rfl⟩
  go_wp2_with fail
  refine (told_law _).mono ?_
  rintro e w' ⟨rfl, rfl⟩
  go_wp2_with fail
  go_ret
  exact ⟨rfl, below_drew _⟩
set_option maxHeartbeats 1000000 in
theorem parts_hi_n (a0 a1 : Int) (a00 : -2147483648 ≤ a0) (a01 : a0 ≤ 2147483647) (a10 : -2147483648 ≤ a1) (a11 : a1 ≤ 2147483647) (hp : a0 ≤ 0) (hb : a1 ≠ 0) (hq : cl (divV a0 a1) = 2147483647) (w : World) :
    Calls Try.prog 6 #[.int .i32 a0, .int .i32 a1] w fun e w' => e = .returned (.bool true) ∧ Below w.heap.size w w' := by
  have hbb : (a1 != 0) = true := by rw [bne_iff_ne]; exact hb
  have Q := Lib.hid hq
  clear hb hq
  go_enter Try.func6, Try.ntmps6
  go_wp2_with fail
  refine (div_any _ _ _ (by omega) (by omega) (by omega) (by omega)).mono ?_
  rintro e w' ⟨rfl, rfl⟩
  rw [Q.out]
  go_wp2_with fail
  refine (root_zero _ _ (by omega)).mono ?_
  rintro e w' ⟨rfl, rfl⟩
  go_wp2_with fail
  refine (told_law _).mono ?_
  rintro e w' ⟨rfl, rfl⟩
  go_wp2_with fail
  go_ret
  exact ⟨rfl, below_drew _⟩
set_option maxHeartbeats 1000000 in
theorem parts_lo_n (a0 a1 : Int) (a00 : -2147483648 ≤ a0) (a01 : a0 ≤ 2147483647) (a10 : -2147483648 ≤ a1) (a11 : a1 ≤ 2147483647) (hp : a0 ≤ 0) (hb : a1 ≠ 0) (hq : cl (divV a0 a1) = -2147483648) (w : World) :
    Calls Try.prog 6 #[.int .i32 a0, .int .i32 a1] w fun e w' => e = .returned (.bool true) ∧ Below w.heap.size w w' := by
  have hbb : (a1 != 0) = true := by rw [bne_iff_ne]; exact hb
  have Q := Lib.hid hq
  clear hb hq
  go_enter Try.func6, Try.ntmps6
  go_wp2_with fail
  refine (div_any _ _ _ (by omega) (by omega) (by omega) (by omega)).mono ?_
  rintro e w' ⟨rfl, rfl⟩
  rw [Q.out]
  go_wp2_with fail
  refine (root_zero _ _ (by omega)).mono ?_
  rintro e w' ⟨rfl, rfl⟩
  go_wp2_with fail
  refine (told_law _).mono ?_
  rintro e w' ⟨rfl, rfl⟩
  go_wp2_with fail
  go_ret
  exact ⟨rfl, below_drew _⟩
set_option maxHeartbeats 1000000 in
theorem parts_zero_n (a0 a1 : Int) (a00 : -2147483648 ≤ a0) (a01 : a0 ≤ 2147483647) (a10 : -2147483648 ≤ a1) (a11 : a1 ≤ 2147483647) (hp : a0 ≤ 0) (q : Int) (hb : a1 ≠ 0) (he : q = (a0 * 65536).tdiv a1) (hq : cl (divV a0 a1) = q) (q0 : -2147483648 < q) (q1 : q < 2147483647) (hz : a0 * 65536 - q * a1 = 0) (w : World) :
    Calls Try.prog 6 #[.int .i32 a0, .int .i32 a1] w fun e w' => e = .returned (.bool true) ∧ Below w.heap.size w w' := by
  obtain ⟨f1, f2, f3, f4, f5, f6⟩ := left_facts a0 a1 q a00 a01 a10 a11 hb he
  have hbb : (a1 != 0) = true := by rw [bne_iff_ne]; exact hb
  have Q := Lib.hid hq
  have hn1 : ((a1.natAbs : Nat) : Int) ≤ 2147483648 := by omega
  have hn0 : 0 ≤ ((a1.natAbs : Nat) : Int) := by omega
  have p1 : -140737488355328 ≤ q * a1 := by omega
  have p2 : q * a1 ≤ 140737488355328 := by omega
  have p3 : -4611686018427387904 ≤ (a0 * 65536 - q * a1) * a1 := by omega
  have p4 : (a0 * 65536 - q * a1) * a1 ≤ 4611686018427387904 := by omega
  have p5 : a0 * 65536 - q * a1 < ((a1.natAbs : Nat) : Int) := by omega
  have p6 : -((a1.natAbs : Nat) : Int) < a0 * 65536 - q * a1 := by omega
  have z1 : ((a0 * 65536 - q * a1) * a1 != 0) = false := by rw [bne_eq_false_iff_eq]; exact f6.2 hz
  have He := Lib.hid he
  have HZ := Lib.hid hz
  clear f1 f2 f3 f4 f5 f6 hb hq he hz
  go_enter Try.func6, Try.ntmps6
  go_wp2_with fail
  refine (div_any _ _ _ (by omega) (by omega) (by omega) (by omega)).mono ?_
  rintro e w' ⟨rfl, rfl⟩
  rw [Q.out]
  go_wp2_with fail
  refine (size_any _ _ (by omega) (by omega)).mono ?_
  rintro e w' ⟨rfl, rfl⟩
  go_wp2_with fail
  refine (size_any _ _ (by omega) (by omega)).mono ?_
  rintro e w' ⟨rfl, rfl⟩
  go_wp2_with fail
  refine (root_zero _ _ (by omega)).mono ?_
  rintro e w' ⟨rfl, rfl⟩
  go_wp2_with fail
  refine (told_law _).mono ?_
  rintro e w' ⟨rfl, rfl⟩
  go_wp2_with fail
  go_ret
  exact ⟨rfl, below_drew _⟩
set_option maxHeartbeats 1000000 in
theorem parts_some_n (a0 a1 : Int) (a00 : -2147483648 ≤ a0) (a01 : a0 ≤ 2147483647) (a10 : -2147483648 ≤ a1) (a11 : a1 ≤ 2147483647) (hp : a0 ≤ 0) (q : Int) (hb : a1 ≠ 0) (he : q = (a0 * 65536).tdiv a1) (hq : cl (divV a0 a1) = q) (q0 : -2147483648 < q) (q1 : q < 2147483647) (hz : a0 * 65536 - q * a1 ≠ 0) (w : World) :
    Calls Try.prog 6 #[.int .i32 a0, .int .i32 a1] w fun e w' => e = .returned (.bool true) ∧ Below w.heap.size w w' := by
  obtain ⟨f1, f2, f3, f4, f5, f6⟩ := left_facts a0 a1 q a00 a01 a10 a11 hb he
  have hbb : (a1 != 0) = true := by rw [bne_iff_ne]; exact hb
  have Q := Lib.hid hq
  have hn1 : ((a1.natAbs : Nat) : Int) ≤ 2147483648 := by omega
  have hn0 : 0 ≤ ((a1.natAbs : Nat) : Int) := by omega
  have p1 : -140737488355328 ≤ q * a1 := by omega
  have p2 : q * a1 ≤ 140737488355328 := by omega
  have p3 : -4611686018427387904 ≤ (a0 * 65536 - q * a1) * a1 := by omega
  have p4 : (a0 * 65536 - q * a1) * a1 ≤ 4611686018427387904 := by omega
  have p5 : a0 * 65536 - q * a1 < ((a1.natAbs : Nat) : Int) := by omega
  have p6 : -((a1.natAbs : Nat) : Int) < a0 * 65536 - q * a1 := by omega
  have z1 : ((a0 * 65536 - q * a1) * a1 != 0) = true := by rw [bne_iff_ne]; exact fun h => hz (f6.1 h)
  have z2 : decide (a0 * 65536 - q * a1 < 0) = true := by simp; omega
  have z3 : decide (a0 < 0) = true := by simp; omega
  have He := Lib.hid he
  have HZ := Lib.hid hz
  clear f1 f2 f3 f4 f5 f6 hb hq he hz
  go_enter Try.func6, Try.ntmps6
  go_wp2_with fail
  refine (div_any _ _ _ (by omega) (by omega) (by omega) (by omega)).mono ?_
  rintro e w' ⟨rfl, rfl⟩
  rw [Q.out]
  go_wp2_with fail
  refine (size_any _ _ (by omega) (by omega)).mono ?_
  rintro e w' ⟨rfl, rfl⟩
  go_wp2_with fail
  refine (size_any _ _ (by omega) (by omega)).mono ?_
  rintro e w' ⟨rfl, rfl⟩
  go_wp2_with fail
  refine (root_zero _ _ (by omega)).mono ?_
  rintro e w' ⟨rfl, rfl⟩
  go_wp2_with fail
  refine (told_law _).mono ?_
  rintro e w' ⟨rfl, rfl⟩
  go_wp2_with fail
  go_ret
  exact ⟨rfl, below_drew _⟩

theorem law_FixParts (a0 a1 : Int) (w0 : (Lit.int .i32 a0).wf = true) (w1 : (Lit.int .i32 a1).wf = true) (w : World) :
    Calls Try.prog 6 #[.int .i32 a0, .int .i32 a1] w fun e w' => e = .returned (.bool true) ∧ Below w.heap.size w w' := by
  obtain ⟨a00, a01⟩ := i32_bd w0
  obtain ⟨a10, a11⟩ := i32_bd w1
  clear w0 w1
  by_cases hb : a1 = 0
  · by_cases hp : 0 < a0
    · exact parts_z_p a0 a1 a00 a01 a10 a11 hp hb w
    · exact parts_z_n a0 a1 a00 a01 a10 a11 (by omega) hb w
  have e : divV a0 a1 = (a0 * 65536).tdiv a1 := by unfold divV; rw [if_neg hb]
  by_cases h1 : cl (divV a0 a1) = 2147483647
  · by_cases hp : 0 < a0
    · exact parts_hi_p a0 a1 a00 a01 a10 a11 hp hb h1 w
    · exact parts_hi_n a0 a1 a00 a01 a10 a11 (by omega) hb h1 w
  by_cases h2 : cl (divV a0 a1) = -2147483648
  · by_cases hp : 0 < a0
    · exact parts_lo_p a0 a1 a00 a01 a10 a11 hp hb h2 w
    · exact parts_lo_n a0 a1 a00 a01 a10 a11 (by omega) hb h2 w
  have hq : cl (divV a0 a1) = (a0 * 65536).tdiv a1 ∧ -2147483648 < (a0 * 65536).tdiv a1 ∧ (a0 * 65536).tdiv a1 < 2147483647 := by
    rw [e] at h1 h2 ⊢
    generalize (a0 * 65536).tdiv a1 = q at *
    revert h1 h2; unfold cl; split <;> try split
    all_goals omega
  by_cases hz : a0 * 65536 - (a0 * 65536).tdiv a1 * a1 = 0
  · by_cases hp : 0 < a0
    · exact parts_zero_p a0 a1 a00 a01 a10 a11 hp _ hb rfl hq.1 hq.2.1 hq.2.2 hz w
    · exact parts_zero_n a0 a1 a00 a01 a10 a11 (by omega) _ hb rfl hq.1 hq.2.1 hq.2.2 hz w
  · by_cases hp : 0 < a0
    · exact parts_some_p a0 a1 a00 a01 a10 a11 hp _ hb rfl hq.1 hq.2.1 hq.2.2 hz w
    · exact parts_some_n a0 a1 a00 a01 a10 a11 (by omega) _ hb rfl hq.1 hq.2.1 hq.2.2 hz w

theorem half_facts (a h : Int) (a0 : -2147483648 ≤ a) (a1 : a ≤ 2147483647) (hh : h = cl ((a * 32768).tdiv 65536)) :
    -1073741824 ≤ h ∧ h ≤ 1073741823 ∧ cl (h + h) = h + h ∧ cl (a - (h + h)) = a.tmod 2 ∧ cl (divV h 32768) = h + h := by
  have e : (a * 32768).tdiv 65536 = a.tdiv 2 := by
    rw [show (65536 : Int) = 2 * 32768 from rfl, Int.mul_tdiv_mul_of_pos_left _ _ (by omega)]
  have e2 := Int.mul_tdiv_add_tmod a 2
  have e3 : (a.tmod 2).natAbs < 2 := by rw [Int.natAbs_tmod]; exact Nat.mod_lt _ (by decide)
  have e4 : 0 ≤ a → 0 ≤ a.tmod 2 := fun h => Int.tmod_nonneg _ h
  have e5 : a ≤ 0 → a.tmod 2 ≤ 0 := fun h => by
    have := Int.tmod_nonneg 2 (a := -a) (by omega)
    rw [Int.neg_tmod] at this; omega
  rw [e] at hh
  generalize a.tmod 2 = m at *
  generalize a.tdiv 2 = d at *
  have e6 : h = d := by rw [hh]; unfold cl; rw [if_neg (by omega), if_neg (by omega)]
  subst e6
  clear hh
  refine ⟨by omega, by omega, ?_, ?_, ?_⟩
  · unfold cl; rw [if_neg (by omega), if_neg (by omega)]
  · unfold cl; rw [if_neg (by omega), if_neg (by omega)]; omega
  · unfold divV
    rw [if_neg (by omega), show h * 65536 = (h + h) * 32768 by omega, Int.mul_tdiv_cancel _ (by omega)]
    unfold cl; rw [if_neg (by omega), if_neg (by omega)]

theorem mix_fact (a p : Int) (a0 : -2147483648 ≤ a) (a1 : a ≤ 2147483647) (p0 : -65536 ≤ p) (p1 : p ≤ 65536) : (cl ((a * p).tdiv 65536)).natAbs ≤ a.natAbs := by
  have h : ((a * p).tdiv 65536).natAbs ≤ a.natAbs := by
    rw [Int.natAbs_tdiv, Int.natAbs_mul]
    have : a.natAbs * p.natAbs ≤ a.natAbs * 65536 := Nat.mul_le_mul_left _ (by omega)
    show (a.natAbs * p.natAbs) / 65536 ≤ a.natAbs
    exact Nat.div_le_of_le_mul (by omega)
  generalize (a * p).tdiv 65536 = x at *
  unfold cl; split <;> try split
  all_goals omega
set_option maxHeartbeats 1000000 in
theorem mixes_n (a0 a1 p m h : Int) (a00 : -2147483648 ≤ a0) (a01 : a0 ≤ 2147483647) (a10 : -2147483648 ≤ a1) (a11 : a1 ≤ 2147483647) (hp : clampV a1 (-65536) 65536 = p) (p0 : -65536 ≤ p) (p1 : p ≤ 65536) (he : cl ((a0 * p).tdiv 65536) = m) (hm : m < 0) (hh : h = cl ((a0 * 32768).tdiv 65536)) (w : World) :
    Calls Try.prog 9 #[.int .i32 a0, .int .i32 a1] w fun e w' => e = .returned (.bool true) ∧ Below w.heap.size w w' := by
  obtain ⟨h0, h1, f1, f2, f3⟩ := half_facts a0 h a00 a01 hh
  have m1 := mix_fact a0 p a00 a01 p0 p1
  rw [he] at m1
  have n1 : ((a0.natAbs : Nat) : Int) ≤ 2147483648 := by omega
  have m0 : -m ≤ ((a0.natAbs : Nat) : Int) := by omega
  have m2 : -2147483648 ≤ m := by omega
  have m3 : m ≤ 2147483648 := by omega
  have P := Lib.hid hp
  have E := Lib.hid he
  have HH := Lib.hid hh.symm
  have F1 := Lib.hid f1
  have F2 := Lib.hid f2
  have F3 := Lib.hid f3
  clear hp he hh f1 f2 f3 m1
  have q2 : (a0.tmod 2 == a0.tmod 2) = true := by simp
  have q3 : (h + h == h + h) = true := by simp
  go_enter Try.func9, Try.ntmps9
  go_wp2_with fail
  refine (clamp_any _ _ _ _).mono ?_
  rintro e w' ⟨rfl, rfl⟩
  rw [P.out]
  go_wp2_with fail
  refine (mul_any _ _ _ (by omega) (by omega) (by omega) (by omega)).mono ?_
  rintro e w' ⟨rfl, rfl⟩
  rw [E.out]
  go_wp2_with fail
  refine (mul_any _ _ _ (by omega) (by omega) (by omega) (by omega)).mono ?_
  rintro e w' ⟨rfl, rfl⟩
  rw [HH.out]
  go_wp2_with fail
  refine (told_law _).mono ?_
  rintro e w' ⟨rfl, rfl⟩
  go_wp2_with fail
  refine (size_any _ _ (by omega) (by omega)).mono ?_
  rintro e w' ⟨rfl, rfl⟩
  go_wp2_with fail
  refine (add_any _ _ _ (by omega) (by omega) (by omega) (by omega)).mono ?_
  rintro e w' ⟨rfl, rfl⟩
  rw [F1.out]
  go_wp2_with fail
  refine (sub_any _ _ _ (by omega) (by omega) (by omega) (by omega)).mono ?_
  rintro e w' ⟨rfl, rfl⟩
  rw [F2.out]
  go_wp2_with fail
  refine (div_any _ _ _ (by omega) (by omega) (by omega) (by omega)).mono ?_
  rintro e w' ⟨rfl, rfl⟩
  rw [F3.out]
  go_wp2_with fail
  refine (add_any _ _ _ (by omega) (by omega) (by omega) (by omega)).mono ?_
  rintro e w' ⟨rfl, rfl⟩
  rw [F1.out]
  go_wp2_with fail
  go_ret
  exact ⟨rfl, below_drew _⟩
set_option maxHeartbeats 1000000 in
theorem mixes_p (a0 a1 p m h : Int) (a00 : -2147483648 ≤ a0) (a01 : a0 ≤ 2147483647) (a10 : -2147483648 ≤ a1) (a11 : a1 ≤ 2147483647) (hp : clampV a1 (-65536) 65536 = p) (p0 : -65536 ≤ p) (p1 : p ≤ 65536) (he : cl ((a0 * p).tdiv 65536) = m) (hm : 0 ≤ m) (hh : h = cl ((a0 * 32768).tdiv 65536)) (w : World) :
    Calls Try.prog 9 #[.int .i32 a0, .int .i32 a1] w fun e w' => e = .returned (.bool true) ∧ Below w.heap.size w w' := by
  obtain ⟨h0, h1, f1, f2, f3⟩ := half_facts a0 h a00 a01 hh
  have m1 := mix_fact a0 p a00 a01 p0 p1
  rw [he] at m1
  have n1 : ((a0.natAbs : Nat) : Int) ≤ 2147483648 := by omega
  have m0 : m ≤ ((a0.natAbs : Nat) : Int) := by omega
  have m2 : -2147483648 ≤ m := by omega
  have m3 : m ≤ 2147483648 := by omega
  have P := Lib.hid hp
  have E := Lib.hid he
  have HH := Lib.hid hh.symm
  have F1 := Lib.hid f1
  have F2 := Lib.hid f2
  have F3 := Lib.hid f3
  clear hp he hh f1 f2 f3 m1
  have q2 : (a0.tmod 2 == a0.tmod 2) = true := by simp
  have q3 : (h + h == h + h) = true := by simp
  go_enter Try.func9, Try.ntmps9
  go_wp2_with fail
  refine (clamp_any _ _ _ _).mono ?_
  rintro e w' ⟨rfl, rfl⟩
  rw [P.out]
  go_wp2_with fail
  refine (mul_any _ _ _ (by omega) (by omega) (by omega) (by omega)).mono ?_
  rintro e w' ⟨rfl, rfl⟩
  rw [E.out]
  go_wp2_with fail
  refine (mul_any _ _ _ (by omega) (by omega) (by omega) (by omega)).mono ?_
  rintro e w' ⟨rfl, rfl⟩
  rw [HH.out]
  go_wp2_with fail
  refine (told_law _).mono ?_
  rintro e w' ⟨rfl, rfl⟩
  go_wp2_with fail
  refine (size_any _ _ (by omega) (by omega)).mono ?_
  rintro e w' ⟨rfl, rfl⟩
  go_wp2_with fail
  refine (add_any _ _ _ (by omega) (by omega) (by omega) (by omega)).mono ?_
  rintro e w' ⟨rfl, rfl⟩
  rw [F1.out]
  go_wp2_with fail
  refine (sub_any _ _ _ (by omega) (by omega) (by omega) (by omega)).mono ?_
  rintro e w' ⟨rfl, rfl⟩
  rw [F2.out]
  go_wp2_with fail
  refine (div_any _ _ _ (by omega) (by omega) (by omega) (by omega)).mono ?_
  rintro e w' ⟨rfl, rfl⟩
  rw [F3.out]
  go_wp2_with fail
  refine (add_any _ _ _ (by omega) (by omega) (by omega) (by omega)).mono ?_
  rintro e w' ⟨rfl, rfl⟩
  rw [F1.out]
  go_wp2_with fail
  go_ret
  exact ⟨rfl, below_drew _⟩

theorem law_FixMixes (a0 a1 : Int) (w0 : (Lit.int .i32 a0).wf = true) (w1 : (Lit.int .i32 a1).wf = true) (w : World) :
    Calls Try.prog 9 #[.int .i32 a0, .int .i32 a1] w fun e w' => e = .returned (.bool true) ∧ Below w.heap.size w w' := by
  obtain ⟨a00, a01⟩ := i32_bd w0
  obtain ⟨a10, a11⟩ := i32_bd w1
  have hc := clamp_in a1 (-65536) 65536 (by omega)
  by_cases hm : cl ((a0 * clampV a1 (-65536) 65536).tdiv 65536) < 0
  · exact mixes_n a0 a1 _ _ _ a00 a01 a10 a11 rfl hc.1 hc.2.1 rfl hm rfl w
  · exact mixes_p a0 a1 _ _ _ a00 a01 a10 a11 rfl hc.1 hc.2.1 rfl (by omega) rfl w
end Go.Proofs.Ytikmlkfimphjiaa
