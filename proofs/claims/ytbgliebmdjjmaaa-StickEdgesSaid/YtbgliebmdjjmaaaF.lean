/-
  Stick: the Go text of StickEdges returns true for every input.
-/
import Derived.Test.YtbgliebmdjjmaaaC
namespace Go.Proofs.Ytbgliebmdjjmaaa
set_option linter.unusedVariables false
open Go.ChangeShapes Go.WideShapes Go.ChangeAt Go.RowKit
attribute [local go_sem] run_neg_f64

theorem below_via {w W w1 : World} (h : Below W.heap.size W w1) (k : Below w.heap.size w W) : Below w.heap.size w w1 := k.trans (h.mono k.size)
set_option maxHeartbeats 1000000 in
theorem edges_0_p (a0 : Int) (hi : IntKind.u64.wrap a0 % 10 = 0) (hu : 0 ≤ IntKind.u64.wrap a0) (w : World) :
    Calls Try.prog 5 #[.int .i64 a0, .bool false] w fun e w' => e = .returned (.bool true) ∧ Below w.heap.size w w' := by
  have K1 := Lib.hid (show axisF 9221120237041090561 = 0 by decide +kernel)
  go_enter Try.func5, Try.ntmps5
  go_wp2_with fail
  refine (nan_val _).mono ?_
  rintro e w' ⟨rfl, rfl⟩
  go_wp2_with fail
  refine (inf_pos _).mono ?_
  rintro e w' ⟨rfl, rfl⟩
  go_wp2_with fail
  go_quiet (fail)
  go_wp2_with fail
  refine (told_law _).mono ?_
  rintro e w1 ⟨rfl, hB⟩
  have hB1 : Below w.heap.size w w1 := below_via hB ((((Below.refl _ _).alloc (Nat.le_refl _) _).alloc (by simp) _).trans ⟨rfl, rfl, rfl, Nat.le_refl _, fun _ _ => rfl⟩)
  clear hB
  go_wp2_with fail
  refine (axis_any _ (by decide) _).mono ?_
  rintro e w' ⟨rfl, rfl⟩
  first | rw [K1.out] | (rw [show (Op.negFloat .f64 9221120237041090561) = 9221120237041090561 by decide +kernel, K1.out])
  go_wp2_with fail
  go_ret
  exact ⟨rfl, hB1⟩
set_option maxHeartbeats 1000000 in
theorem edges_0_n (a0 : Int) (hi : IntKind.u64.wrap a0 % 10 = 0) (hu : 0 ≤ IntKind.u64.wrap a0) (w : World) :
    Calls Try.prog 5 #[.int .i64 a0, .bool true] w fun e w' => e = .returned (.bool true) ∧ Below w.heap.size w w' := by
  have K1 := Lib.hid (show axisF 18444492273895866369 = 0 by decide +kernel)
  go_enter Try.func5, Try.ntmps5
  go_wp2_with fail
  refine (nan_val _).mono ?_
  rintro e w' ⟨rfl, rfl⟩
  go_wp2_with fail
  refine (inf_pos _).mono ?_
  rintro e w' ⟨rfl, rfl⟩
  go_wp2_with fail
  go_quiet (fail)
  go_wp2_with fail
  refine (told_law _).mono ?_
  rintro e w1 ⟨rfl, hB⟩
  have hB1 : Below w.heap.size w w1 := below_via hB ((((Below.refl _ _).alloc (Nat.le_refl _) _).alloc (by simp) _).trans ⟨rfl, rfl, rfl, Nat.le_refl _, fun _ _ => rfl⟩)
  clear hB
  go_wp2_with fail
  refine (axis_any _ (by decide) _).mono ?_
  rintro e w' ⟨rfl, rfl⟩
  first | rw [K1.out] | (rw [show (Op.negFloat .f64 9221120237041090561) = 18444492273895866369 by decide +kernel, K1.out])
  go_wp2_with fail
  go_ret
  exact ⟨rfl, hB1⟩
set_option maxHeartbeats 1000000 in
theorem edges_1_p (a0 : Int) (hi : IntKind.u64.wrap a0 % 10 = 1) (hu : 0 ≤ IntKind.u64.wrap a0) (w : World) :
    Calls Try.prog 5 #[.int .i64 a0, .bool false] w fun e w' => e = .returned (.bool true) ∧ Below w.heap.size w w' := by
  have K1 := Lib.hid (show axisF 9218868437227405312 = 127 by decide +kernel)
  go_enter Try.func5, Try.ntmps5
  go_wp2_with fail
  refine (nan_val _).mono ?_
  rintro e w' ⟨rfl, rfl⟩
  go_wp2_with fail
  refine (inf_pos _).mono ?_
  rintro e w' ⟨rfl, rfl⟩
  go_wp2_with fail
  go_quiet (fail)
  go_wp2_with fail
  refine (told_law _).mono ?_
  rintro e w1 ⟨rfl, hB⟩
  have hB1 : Below w.heap.size w w1 := below_via hB ((((Below.refl _ _).alloc (Nat.le_refl _) _).alloc (by simp) _).trans ⟨rfl, rfl, rfl, Nat.le_refl _, fun _ _ => rfl⟩)
  clear hB
  go_wp2_with fail
  refine (axis_any _ (by decide) _).mono ?_
  rintro e w' ⟨rfl, rfl⟩
  first | rw [K1.out] | (rw [show (Op.negFloat .f64 9218868437227405312) = 9218868437227405312 by decide +kernel, K1.out])
  go_wp2_with fail
  go_ret
  exact ⟨rfl, hB1⟩
set_option maxHeartbeats 1000000 in
theorem edges_1_n (a0 : Int) (hi : IntKind.u64.wrap a0 % 10 = 1) (hu : 0 ≤ IntKind.u64.wrap a0) (w : World) :
    Calls Try.prog 5 #[.int .i64 a0, .bool true] w fun e w' => e = .returned (.bool true) ∧ Below w.heap.size w w' := by
  have K1 := Lib.hid (show axisF 18442240474082181120 = (-127) by decide +kernel)
  go_enter Try.func5, Try.ntmps5
  go_wp2_with fail
  refine (nan_val _).mono ?_
  rintro e w' ⟨rfl, rfl⟩
  go_wp2_with fail
  refine (inf_pos _).mono ?_
  rintro e w' ⟨rfl, rfl⟩
  go_wp2_with fail
  go_quiet (fail)
  go_wp2_with fail
  refine (told_law _).mono ?_
  rintro e w1 ⟨rfl, hB⟩
  have hB1 : Below w.heap.size w w1 := below_via hB ((((Below.refl _ _).alloc (Nat.le_refl _) _).alloc (by simp) _).trans ⟨rfl, rfl, rfl, Nat.le_refl _, fun _ _ => rfl⟩)
  clear hB
  go_wp2_with fail
  refine (axis_any _ (by decide) _).mono ?_
  rintro e w' ⟨rfl, rfl⟩
  first | rw [K1.out] | (rw [show (Op.negFloat .f64 9218868437227405312) = 18442240474082181120 by decide +kernel, K1.out])
  go_wp2_with fail
  go_ret
  exact ⟨rfl, hB1⟩
set_option maxHeartbeats 1000000 in
theorem edges_2_p (a0 : Int) (hi : IntKind.u64.wrap a0 % 10 = 2) (hu : 0 ≤ IntKind.u64.wrap a0) (w : World) :
    Calls Try.prog 5 #[.int .i64 a0, .bool false] w fun e w' => e = .returned (.bool true) ∧ Below w.heap.size w w' := by
  have K1 := Lib.hid (show axisF 0 = 0 by decide +kernel)
  go_enter Try.func5, Try.ntmps5
  go_wp2_with fail
  refine (nan_val _).mono ?_
  rintro e w' ⟨rfl, rfl⟩
  go_wp2_with fail
  refine (inf_pos _).mono ?_
  rintro e w' ⟨rfl, rfl⟩
  go_wp2_with fail
  go_quiet (fail)
  go_wp2_with fail
  refine (told_law _).mono ?_
  rintro e w1 ⟨rfl, hB⟩
  have hB1 : Below w.heap.size w w1 := below_via hB ((((Below.refl _ _).alloc (Nat.le_refl _) _).alloc (by simp) _).trans ⟨rfl, rfl, rfl, Nat.le_refl _, fun _ _ => rfl⟩)
  clear hB
  go_wp2_with fail
  refine (axis_any _ (by decide) _).mono ?_
  rintro e w' ⟨rfl, rfl⟩
  first | rw [K1.out] | (rw [show (Op.negFloat .f64 0) = 0 by decide +kernel, K1.out])
  go_wp2_with fail
  go_ret
  exact ⟨rfl, hB1⟩
set_option maxHeartbeats 1000000 in
theorem edges_2_n (a0 : Int) (hi : IntKind.u64.wrap a0 % 10 = 2) (hu : 0 ≤ IntKind.u64.wrap a0) (w : World) :
    Calls Try.prog 5 #[.int .i64 a0, .bool true] w fun e w' => e = .returned (.bool true) ∧ Below w.heap.size w w' := by
  have K1 := Lib.hid (show axisF 9223372036854775808 = 0 by decide +kernel)
  go_enter Try.func5, Try.ntmps5
  go_wp2_with fail
  refine (nan_val _).mono ?_
  rintro e w' ⟨rfl, rfl⟩
  go_wp2_with fail
  refine (inf_pos _).mono ?_
  rintro e w' ⟨rfl, rfl⟩
  go_wp2_with fail
  go_quiet (fail)
  go_wp2_with fail
  refine (told_law _).mono ?_
  rintro e w1 ⟨rfl, hB⟩
  have hB1 : Below w.heap.size w w1 := below_via hB ((((Below.refl _ _).alloc (Nat.le_refl _) _).alloc (by simp) _).trans ⟨rfl, rfl, rfl, Nat.le_refl _, fun _ _ => rfl⟩)
  clear hB
  go_wp2_with fail
  refine (axis_any _ (by decide) _).mono ?_
  rintro e w' ⟨rfl, rfl⟩
  first | rw [K1.out] | (rw [show (Op.negFloat .f64 0) = 9223372036854775808 by decide +kernel, K1.out])
  go_wp2_with fail
  go_ret
  exact ⟨rfl, hB1⟩
set_option maxHeartbeats 1000000 in
theorem edges_3_p (a0 : Int) (hi : IntKind.u64.wrap a0 % 10 = 3) (hu : 0 ≤ IntKind.u64.wrap a0) (w : World) :
    Calls Try.prog 5 #[.int .i64 a0, .bool false] w fun e w' => e = .returned (.bool true) ∧ Below w.heap.size w w' := by
  have K1 := Lib.hid (show axisF 1 = 0 by decide +kernel)
  go_enter Try.func5, Try.ntmps5
  go_wp2_with fail
  refine (nan_val _).mono ?_
  rintro e w' ⟨rfl, rfl⟩
  go_wp2_with fail
  refine (inf_pos _).mono ?_
  rintro e w' ⟨rfl, rfl⟩
  go_wp2_with fail
  go_quiet (fail)
  go_wp2_with fail
  refine (told_law _).mono ?_
  rintro e w1 ⟨rfl, hB⟩
  have hB1 : Below w.heap.size w w1 := below_via hB ((((Below.refl _ _).alloc (Nat.le_refl _) _).alloc (by simp) _).trans ⟨rfl, rfl, rfl, Nat.le_refl _, fun _ _ => rfl⟩)
  clear hB
  go_wp2_with fail
  refine (axis_any _ (by decide) _).mono ?_
  rintro e w' ⟨rfl, rfl⟩
  first | rw [K1.out] | (rw [show (Op.negFloat .f64 1) = 1 by decide +kernel, K1.out])
  go_wp2_with fail
  go_ret
  exact ⟨rfl, hB1⟩
set_option maxHeartbeats 1000000 in
theorem edges_3_n (a0 : Int) (hi : IntKind.u64.wrap a0 % 10 = 3) (hu : 0 ≤ IntKind.u64.wrap a0) (w : World) :
    Calls Try.prog 5 #[.int .i64 a0, .bool true] w fun e w' => e = .returned (.bool true) ∧ Below w.heap.size w w' := by
  have K1 := Lib.hid (show axisF 9223372036854775809 = 0 by decide +kernel)
  go_enter Try.func5, Try.ntmps5
  go_wp2_with fail
  refine (nan_val _).mono ?_
  rintro e w' ⟨rfl, rfl⟩
  go_wp2_with fail
  refine (inf_pos _).mono ?_
  rintro e w' ⟨rfl, rfl⟩
  go_wp2_with fail
  go_quiet (fail)
  go_wp2_with fail
  refine (told_law _).mono ?_
  rintro e w1 ⟨rfl, hB⟩
  have hB1 : Below w.heap.size w w1 := below_via hB ((((Below.refl _ _).alloc (Nat.le_refl _) _).alloc (by simp) _).trans ⟨rfl, rfl, rfl, Nat.le_refl _, fun _ _ => rfl⟩)
  clear hB
  go_wp2_with fail
  refine (axis_any _ (by decide) _).mono ?_
  rintro e w' ⟨rfl, rfl⟩
  first | rw [K1.out] | (rw [show (Op.negFloat .f64 1) = 9223372036854775809 by decide +kernel, K1.out])
  go_wp2_with fail
  go_ret
  exact ⟨rfl, hB1⟩
set_option maxHeartbeats 1000000 in
theorem edges_4_p (a0 : Int) (hi : IntKind.u64.wrap a0 % 10 = 4) (hu : 0 ≤ IntKind.u64.wrap a0) (w : World) :
    Calls Try.prog 5 #[.int .i64 a0, .bool false] w fun e w' => e = .returned (.bool true) ∧ Below w.heap.size w w' := by
  have K1 := Lib.hid (show axisF 9218868437227405311 = 127 by decide +kernel)
  go_enter Try.func5, Try.ntmps5
  go_wp2_with fail
  refine (nan_val _).mono ?_
  rintro e w' ⟨rfl, rfl⟩
  go_wp2_with fail
  refine (inf_pos _).mono ?_
  rintro e w' ⟨rfl, rfl⟩
  go_wp2_with fail
  go_quiet (fail)
  go_wp2_with fail
  refine (told_law _).mono ?_
  rintro e w1 ⟨rfl, hB⟩
  have hB1 : Below w.heap.size w w1 := below_via hB ((((Below.refl _ _).alloc (Nat.le_refl _) _).alloc (by simp) _).trans ⟨rfl, rfl, rfl, Nat.le_refl _, fun _ _ => rfl⟩)
  clear hB
  go_wp2_with fail
  refine (axis_any _ (by decide) _).mono ?_
  rintro e w' ⟨rfl, rfl⟩
  first | rw [K1.out] | (rw [show (Op.negFloat .f64 9218868437227405311) = 9218868437227405311 by decide +kernel, K1.out])
  go_wp2_with fail
  go_ret
  exact ⟨rfl, hB1⟩
set_option maxHeartbeats 1000000 in
theorem edges_4_n (a0 : Int) (hi : IntKind.u64.wrap a0 % 10 = 4) (hu : 0 ≤ IntKind.u64.wrap a0) (w : World) :
    Calls Try.prog 5 #[.int .i64 a0, .bool true] w fun e w' => e = .returned (.bool true) ∧ Below w.heap.size w w' := by
  have K1 := Lib.hid (show axisF 18442240474082181119 = (-127) by decide +kernel)
  go_enter Try.func5, Try.ntmps5
  go_wp2_with fail
  refine (nan_val _).mono ?_
  rintro e w' ⟨rfl, rfl⟩
  go_wp2_with fail
  refine (inf_pos _).mono ?_
  rintro e w' ⟨rfl, rfl⟩
  go_wp2_with fail
  go_quiet (fail)
  go_wp2_with fail
  refine (told_law _).mono ?_
  rintro e w1 ⟨rfl, hB⟩
  have hB1 : Below w.heap.size w w1 := below_via hB ((((Below.refl _ _).alloc (Nat.le_refl _) _).alloc (by simp) _).trans ⟨rfl, rfl, rfl, Nat.le_refl _, fun _ _ => rfl⟩)
  clear hB
  go_wp2_with fail
  refine (axis_any _ (by decide) _).mono ?_
  rintro e w' ⟨rfl, rfl⟩
  first | rw [K1.out] | (rw [show (Op.negFloat .f64 9218868437227405311) = 18442240474082181119 by decide +kernel, K1.out])
  go_wp2_with fail
  go_ret
  exact ⟨rfl, hB1⟩
set_option maxHeartbeats 1000000 in
theorem edges_5_p (a0 : Int) (hi : IntKind.u64.wrap a0 % 10 = 5) (hu : 0 ≤ IntKind.u64.wrap a0) (w : World) :
    Calls Try.prog 5 #[.int .i64 a0, .bool false] w fun e w' => e = .returned (.bool true) ∧ Below w.heap.size w w' := by
  have K1 := Lib.hid (show axisF 4593671619917905919 = 0 by decide +kernel)
  go_enter Try.func5, Try.ntmps5
  go_wp2_with fail
  refine (nan_val _).mono ?_
  rintro e w' ⟨rfl, rfl⟩
  go_wp2_with fail
  refine (inf_pos _).mono ?_
  rintro e w' ⟨rfl, rfl⟩
  go_wp2_with fail
  go_quiet (fail)
  go_wp2_with fail
  refine (told_law _).mono ?_
  rintro e w1 ⟨rfl, hB⟩
  have hB1 : Below w.heap.size w w1 := below_via hB ((((Below.refl _ _).alloc (Nat.le_refl _) _).alloc (by simp) _).trans ⟨rfl, rfl, rfl, Nat.le_refl _, fun _ _ => rfl⟩)
  clear hB
  go_wp2_with fail
  refine (axis_any _ (by decide) _).mono ?_
  rintro e w' ⟨rfl, rfl⟩
  first | rw [K1.out] | (rw [show (Op.negFloat .f64 4593671619917905919) = 4593671619917905919 by decide +kernel, K1.out])
  go_wp2_with fail
  go_ret
  exact ⟨rfl, hB1⟩
set_option maxHeartbeats 1000000 in
theorem edges_5_n (a0 : Int) (hi : IntKind.u64.wrap a0 % 10 = 5) (hu : 0 ≤ IntKind.u64.wrap a0) (w : World) :
    Calls Try.prog 5 #[.int .i64 a0, .bool true] w fun e w' => e = .returned (.bool true) ∧ Below w.heap.size w w' := by
  have K1 := Lib.hid (show axisF 13817043656772681727 = 0 by decide +kernel)
  go_enter Try.func5, Try.ntmps5
  go_wp2_with fail
  refine (nan_val _).mono ?_
  rintro e w' ⟨rfl, rfl⟩
  go_wp2_with fail
  refine (inf_pos _).mono ?_
  rintro e w' ⟨rfl, rfl⟩
  go_wp2_with fail
  go_quiet (fail)
  go_wp2_with fail
  refine (told_law _).mono ?_
  rintro e w1 ⟨rfl, hB⟩
  have hB1 : Below w.heap.size w w1 := below_via hB ((((Below.refl _ _).alloc (Nat.le_refl _) _).alloc (by simp) _).trans ⟨rfl, rfl, rfl, Nat.le_refl _, fun _ _ => rfl⟩)
  clear hB
  go_wp2_with fail
  refine (axis_any _ (by decide) _).mono ?_
  rintro e w' ⟨rfl, rfl⟩
  first | rw [K1.out] | (rw [show (Op.negFloat .f64 4593671619917905919) = 13817043656772681727 by decide +kernel, K1.out])
  go_wp2_with fail
  go_ret
  exact ⟨rfl, hB1⟩
set_option maxHeartbeats 1000000 in
theorem edges_6_p (a0 : Int) (hi : IntKind.u64.wrap a0 % 10 = 6) (hu : 0 ≤ IntKind.u64.wrap a0) (w : World) :
    Calls Try.prog 5 #[.int .i64 a0, .bool false] w fun e w' => e = .returned (.bool true) ∧ Below w.heap.size w w' := by
  have K1 := Lib.hid (show axisF 4593671619917905920 = 16 by decide +kernel)
  go_enter Try.func5, Try.ntmps5
  go_wp2_with fail
  refine (nan_val _).mono ?_
  rintro e w' ⟨rfl, rfl⟩
  go_wp2_with fail
  refine (inf_pos _).mono ?_
  rintro e w' ⟨rfl, rfl⟩
  go_wp2_with fail
  go_quiet (fail)
  go_wp2_with fail
  refine (told_law _).mono ?_
  rintro e w1 ⟨rfl, hB⟩
  have hB1 : Below w.heap.size w w1 := below_via hB ((((Below.refl _ _).alloc (Nat.le_refl _) _).alloc (by simp) _).trans ⟨rfl, rfl, rfl, Nat.le_refl _, fun _ _ => rfl⟩)
  clear hB
  go_wp2_with fail
  refine (axis_any _ (by decide) _).mono ?_
  rintro e w' ⟨rfl, rfl⟩
  first | rw [K1.out] | (rw [show (Op.negFloat .f64 4593671619917905920) = 4593671619917905920 by decide +kernel, K1.out])
  go_wp2_with fail
  go_ret
  exact ⟨rfl, hB1⟩
set_option maxHeartbeats 1000000 in
theorem edges_6_n (a0 : Int) (hi : IntKind.u64.wrap a0 % 10 = 6) (hu : 0 ≤ IntKind.u64.wrap a0) (w : World) :
    Calls Try.prog 5 #[.int .i64 a0, .bool true] w fun e w' => e = .returned (.bool true) ∧ Below w.heap.size w w' := by
  have K1 := Lib.hid (show axisF 13817043656772681728 = (-16) by decide +kernel)
  go_enter Try.func5, Try.ntmps5
  go_wp2_with fail
  refine (nan_val _).mono ?_
  rintro e w' ⟨rfl, rfl⟩
  go_wp2_with fail
  refine (inf_pos _).mono ?_
  rintro e w' ⟨rfl, rfl⟩
  go_wp2_with fail
  go_quiet (fail)
  go_wp2_with fail
  refine (told_law _).mono ?_
  rintro e w1 ⟨rfl, hB⟩
  have hB1 : Below w.heap.size w w1 := below_via hB ((((Below.refl _ _).alloc (Nat.le_refl _) _).alloc (by simp) _).trans ⟨rfl, rfl, rfl, Nat.le_refl _, fun _ _ => rfl⟩)
  clear hB
  go_wp2_with fail
  refine (axis_any _ (by decide) _).mono ?_
  rintro e w' ⟨rfl, rfl⟩
  first | rw [K1.out] | (rw [show (Op.negFloat .f64 4593671619917905920) = 13817043656772681728 by decide +kernel, K1.out])
  go_wp2_with fail
  go_ret
  exact ⟨rfl, hB1⟩
set_option maxHeartbeats 1000000 in
theorem edges_7_p (a0 : Int) (hi : IntKind.u64.wrap a0 % 10 = 7) (hu : 0 ≤ IntKind.u64.wrap a0) (w : World) :
    Calls Try.prog 5 #[.int .i64 a0, .bool false] w fun e w' => e = .returned (.bool true) ∧ Below w.heap.size w w' := by
  have K1 := Lib.hid (show axisF 4607182418800017408 = 127 by decide +kernel)
  go_enter Try.func5, Try.ntmps5
  go_wp2_with fail
  refine (nan_val _).mono ?_
  rintro e w' ⟨rfl, rfl⟩
  go_wp2_with fail
  refine (inf_pos _).mono ?_
  rintro e w' ⟨rfl, rfl⟩
  go_wp2_with fail
  go_quiet (fail)
  go_wp2_with fail
  refine (told_law _).mono ?_
  rintro e w1 ⟨rfl, hB⟩
  have hB1 : Below w.heap.size w w1 := below_via hB ((((Below.refl _ _).alloc (Nat.le_refl _) _).alloc (by simp) _).trans ⟨rfl, rfl, rfl, Nat.le_refl _, fun _ _ => rfl⟩)
  clear hB
  go_wp2_with fail
  refine (axis_any _ (by decide) _).mono ?_
  rintro e w' ⟨rfl, rfl⟩
  first | rw [K1.out] | (rw [show (Op.negFloat .f64 4607182418800017408) = 4607182418800017408 by decide +kernel, K1.out])
  go_wp2_with fail
  go_ret
  exact ⟨rfl, hB1⟩
set_option maxHeartbeats 1000000 in
theorem edges_7_n (a0 : Int) (hi : IntKind.u64.wrap a0 % 10 = 7) (hu : 0 ≤ IntKind.u64.wrap a0) (w : World) :
    Calls Try.prog 5 #[.int .i64 a0, .bool true] w fun e w' => e = .returned (.bool true) ∧ Below w.heap.size w w' := by
  have K1 := Lib.hid (show axisF 13830554455654793216 = (-127) by decide +kernel)
  go_enter Try.func5, Try.ntmps5
  go_wp2_with fail
  refine (nan_val _).mono ?_
  rintro e w' ⟨rfl, rfl⟩
  go_wp2_with fail
  refine (inf_pos _).mono ?_
  rintro e w' ⟨rfl, rfl⟩
  go_wp2_with fail
  go_quiet (fail)
  go_wp2_with fail
  refine (told_law _).mono ?_
  rintro e w1 ⟨rfl, hB⟩
  have hB1 : Below w.heap.size w w1 := below_via hB ((((Below.refl _ _).alloc (Nat.le_refl _) _).alloc (by simp) _).trans ⟨rfl, rfl, rfl, Nat.le_refl _, fun _ _ => rfl⟩)
  clear hB
  go_wp2_with fail
  refine (axis_any _ (by decide) _).mono ?_
  rintro e w' ⟨rfl, rfl⟩
  first | rw [K1.out] | (rw [show (Op.negFloat .f64 4607182418800017408) = 13830554455654793216 by decide +kernel, K1.out])
  go_wp2_with fail
  go_ret
  exact ⟨rfl, hB1⟩
set_option maxHeartbeats 1000000 in
theorem edges_8_p (a0 : Int) (hi : IntKind.u64.wrap a0 % 10 = 8) (hu : 0 ≤ IntKind.u64.wrap a0) (w : World) :
    Calls Try.prog 5 #[.int .i64 a0, .bool false] w fun e w' => e = .returned (.bool true) ∧ Below w.heap.size w w' := by
  have K1 := Lib.hid (show axisF 4607182418800017407 = 127 by decide +kernel)
  go_enter Try.func5, Try.ntmps5
  go_wp2_with fail
  refine (nan_val _).mono ?_
  rintro e w' ⟨rfl, rfl⟩
  go_wp2_with fail
  refine (inf_pos _).mono ?_
  rintro e w' ⟨rfl, rfl⟩
  go_wp2_with fail
  go_quiet (fail)
  go_wp2_with fail
  refine (told_law _).mono ?_
  rintro e w1 ⟨rfl, hB⟩
  have hB1 : Below w.heap.size w w1 := below_via hB ((((Below.refl _ _).alloc (Nat.le_refl _) _).alloc (by simp) _).trans ⟨rfl, rfl, rfl, Nat.le_refl _, fun _ _ => rfl⟩)
  clear hB
  go_wp2_with fail
  refine (axis_any _ (by decide) _).mono ?_
  rintro e w' ⟨rfl, rfl⟩
  first | rw [K1.out] | (rw [show (Op.negFloat .f64 4607182418800017407) = 4607182418800017407 by decide +kernel, K1.out])
  go_wp2_with fail
  go_ret
  exact ⟨rfl, hB1⟩
set_option maxHeartbeats 1000000 in
theorem edges_8_n (a0 : Int) (hi : IntKind.u64.wrap a0 % 10 = 8) (hu : 0 ≤ IntKind.u64.wrap a0) (w : World) :
    Calls Try.prog 5 #[.int .i64 a0, .bool true] w fun e w' => e = .returned (.bool true) ∧ Below w.heap.size w w' := by
  have K1 := Lib.hid (show axisF 13830554455654793215 = (-127) by decide +kernel)
  go_enter Try.func5, Try.ntmps5
  go_wp2_with fail
  refine (nan_val _).mono ?_
  rintro e w' ⟨rfl, rfl⟩
  go_wp2_with fail
  refine (inf_pos _).mono ?_
  rintro e w' ⟨rfl, rfl⟩
  go_wp2_with fail
  go_quiet (fail)
  go_wp2_with fail
  refine (told_law _).mono ?_
  rintro e w1 ⟨rfl, hB⟩
  have hB1 : Below w.heap.size w w1 := below_via hB ((((Below.refl _ _).alloc (Nat.le_refl _) _).alloc (by simp) _).trans ⟨rfl, rfl, rfl, Nat.le_refl _, fun _ _ => rfl⟩)
  clear hB
  go_wp2_with fail
  refine (axis_any _ (by decide) _).mono ?_
  rintro e w' ⟨rfl, rfl⟩
  first | rw [K1.out] | (rw [show (Op.negFloat .f64 4607182418800017407) = 13830554455654793215 by decide +kernel, K1.out])
  go_wp2_with fail
  go_ret
  exact ⟨rfl, hB1⟩
set_option maxHeartbeats 1000000 in
theorem edges_9_p (a0 : Int) (hi : IntKind.u64.wrap a0 % 10 = 9) (hu : 0 ≤ IntKind.u64.wrap a0) (w : World) :
    Calls Try.prog 5 #[.int .i64 a0, .bool false] w fun e w' => e = .returned (.bool true) ∧ Below w.heap.size w w' := by
  have K1 := Lib.hid (show axisF 4609434218613702656 = 127 by decide +kernel)
  go_enter Try.func5, Try.ntmps5
  go_wp2_with fail
  refine (nan_val _).mono ?_
  rintro e w' ⟨rfl, rfl⟩
  go_wp2_with fail
  refine (inf_pos _).mono ?_
  rintro e w' ⟨rfl, rfl⟩
  go_wp2_with fail
  go_quiet (fail)
  go_wp2_with fail
  refine (told_law _).mono ?_
  rintro e w1 ⟨rfl, hB⟩
  have hB1 : Below w.heap.size w w1 := below_via hB ((((Below.refl _ _).alloc (Nat.le_refl _) _).alloc (by simp) _).trans ⟨rfl, rfl, rfl, Nat.le_refl _, fun _ _ => rfl⟩)
  clear hB
  go_wp2_with fail
  refine (axis_any _ (by decide) _).mono ?_
  rintro e w' ⟨rfl, rfl⟩
  first | rw [K1.out] | (rw [show (Op.negFloat .f64 4609434218613702656) = 4609434218613702656 by decide +kernel, K1.out])
  go_wp2_with fail
  go_ret
  exact ⟨rfl, hB1⟩
set_option maxHeartbeats 1000000 in
theorem edges_9_n (a0 : Int) (hi : IntKind.u64.wrap a0 % 10 = 9) (hu : 0 ≤ IntKind.u64.wrap a0) (w : World) :
    Calls Try.prog 5 #[.int .i64 a0, .bool true] w fun e w' => e = .returned (.bool true) ∧ Below w.heap.size w w' := by
  have K1 := Lib.hid (show axisF 13832806255468478464 = (-127) by decide +kernel)
  go_enter Try.func5, Try.ntmps5
  go_wp2_with fail
  refine (nan_val _).mono ?_
  rintro e w' ⟨rfl, rfl⟩
  go_wp2_with fail
  refine (inf_pos _).mono ?_
  rintro e w' ⟨rfl, rfl⟩
  go_wp2_with fail
  go_quiet (fail)
  go_wp2_with fail
  refine (told_law _).mono ?_
  rintro e w1 ⟨rfl, hB⟩
  have hB1 : Below w.heap.size w w1 := below_via hB ((((Below.refl _ _).alloc (Nat.le_refl _) _).alloc (by simp) _).trans ⟨rfl, rfl, rfl, Nat.le_refl _, fun _ _ => rfl⟩)
  clear hB
  go_wp2_with fail
  refine (axis_any _ (by decide) _).mono ?_
  rintro e w' ⟨rfl, rfl⟩
  first | rw [K1.out] | (rw [show (Op.negFloat .f64 4609434218613702656) = 13832806255468478464 by decide +kernel, K1.out])
  go_wp2_with fail
  go_ret
  exact ⟨rfl, hB1⟩

theorem law_StickEdges (a0 : Int) (a1 : Bool) (w0 : (Lit.int .i64 a0).wf = true) (w : World) :
    Calls Try.prog 5 #[.int .i64 a0, .bool a1] w fun e w' => e = .returned (.bool true) ∧ Below w.heap.size w w' := by
  have hu : 0 ≤ IntKind.u64.wrap a0 := by simp [IntKind.wrap, IntKind.bits, IntKind.signed]; omega
  have h : IntKind.u64.wrap a0 % 10 = 0 ∨ IntKind.u64.wrap a0 % 10 = 1 ∨ IntKind.u64.wrap a0 % 10 = 2 ∨ IntKind.u64.wrap a0 % 10 = 3 ∨ IntKind.u64.wrap a0 % 10 = 4 ∨ IntKind.u64.wrap a0 % 10 = 5 ∨ IntKind.u64.wrap a0 % 10 = 6 ∨ IntKind.u64.wrap a0 % 10 = 7 ∨ IntKind.u64.wrap a0 % 10 = 8 ∨ IntKind.u64.wrap a0 % 10 = 9 := by omega
  cases a1 with
  | true =>
    rcases h with h | h | h | h | h | h | h | h | h | h
    · exact edges_0_n a0 h hu w
    · exact edges_1_n a0 h hu w
    · exact edges_2_n a0 h hu w
    · exact edges_3_n a0 h hu w
    · exact edges_4_n a0 h hu w
    · exact edges_5_n a0 h hu w
    · exact edges_6_n a0 h hu w
    · exact edges_7_n a0 h hu w
    · exact edges_8_n a0 h hu w
    · exact edges_9_n a0 h hu w
  | false =>
    rcases h with h | h | h | h | h | h | h | h | h | h
    · exact edges_0_p a0 h hu w
    · exact edges_1_p a0 h hu w
    · exact edges_2_p a0 h hu w
    · exact edges_3_p a0 h hu w
    · exact edges_4_p a0 h hu w
    · exact edges_5_p a0 h hu w
    · exact edges_6_p a0 h hu w
    · exact edges_7_p a0 h hu w
    · exact edges_8_p a0 h hu w
    · exact edges_9_p a0 h hu w
end Go.Proofs.Ytbgliebmdjjmaaa
