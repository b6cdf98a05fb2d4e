/-
  Fixed point: the Go text of FixEdges returns true for every input.
-/
import Derived.Test.YtikmlkfimphjiaaH
namespace Go.Proofs.Ytikmlkfimphjiaa
set_option linter.unusedVariables false
open Go.ChangeShapes Go.WideShapes Go.ChangeAt Go.RowKit

theorem told_q (w : World) : Calls Try.prog 11 #[] w fun e w' => e = .returned (.bool true) ∧ ∃ n, w' = w.drewN n :=
  (told_law w).mono fun e w' ⟨a, b⟩ => ⟨a, 1, b⟩
attribute [local go_sem] run_neg_f64
set_option maxHeartbeats 1000000 in
theorem edges_0_p (a0 : Int) (hi : IntKind.u64.wrap a0 % 8 = 0) (hu : 0 ≤ IntKind.u64.wrap a0) (w : World) :
    Calls Try.prog 8 #[.int .i64 a0, .bool false] w fun e w' => e = .returned (.bool true) ∧ Below w.heap.size w w' := by
  have k1 : (ofF 9218868437227405312 == 2147483647) = true := by decide +kernel
  have K1 := Lib.hid k1
  clear k1
  go_enter Try.func8, Try.ntmps8
  go_wp2_with fail
  refine (inf_pos _).mono ?_
  rintro e w' ⟨rfl, rfl⟩
  go_wp2_with fail
  go_quiet (first | (go_at_call 11; exact Calls.quiet_of (told_q _)) | (go_at_call 24; exact Calls.quiet_of (of_any _ _)))
  go_wp2_with fail
  go_ret
  exact ⟨ret_bool K1.out, (((Below.refl _ _).alloc (Nat.le_refl _) _).alloc (by simp) _).trans ⟨rfl, rfl, rfl, Nat.le_refl _, fun _ _ => rfl⟩⟩
set_option maxHeartbeats 1000000 in
theorem edges_0_n (a0 : Int) (hi : IntKind.u64.wrap a0 % 8 = 0) (hu : 0 ≤ IntKind.u64.wrap a0) (w : World) :
    Calls Try.prog 8 #[.int .i64 a0, .bool true] w fun e w' => e = .returned (.bool true) ∧ Below w.heap.size w w' := by
  have k1 : (ofF 18442240474082181120 == (-2147483648)) = true := by decide +kernel
  have K1 := Lib.hid k1
  clear k1
  go_enter Try.func8, Try.ntmps8
  go_wp2_with fail
  refine (inf_pos _).mono ?_
  rintro e w' ⟨rfl, rfl⟩
  go_wp2_with fail
  refine (told_law _).mono ?_
  rintro e w' ⟨rfl, rfl⟩
  go_wp2_with fail
  refine (of_any _ _).mono ?_
  rintro e w' ⟨rfl, n1, rfl⟩
  go_wp2_with fail
  go_ret
  exact ⟨ret_bool K1.out, (((Below.refl _ _).alloc (Nat.le_refl _) _).alloc (by simp) _).trans ⟨rfl, rfl, rfl, Nat.le_refl _, fun _ _ => rfl⟩⟩
set_option maxHeartbeats 1000000 in
theorem edges_1_p (a0 : Int) (hi : IntKind.u64.wrap a0 % 8 = 1) (hu : 0 ≤ IntKind.u64.wrap a0) (w : World) :
    Calls Try.prog 8 #[.int .i64 a0, .bool false] w fun e w' => e = .returned (.bool true) ∧ Below w.heap.size w w' := by
  have k1 : (ofF 9218868437227405311 == 2147483647) = true := by decide +kernel
  have K1 := Lib.hid k1
  clear k1
  go_enter Try.func8, Try.ntmps8
  go_wp2_with fail
  refine (inf_pos _).mono ?_
  rintro e w' ⟨rfl, rfl⟩
  go_wp2_with fail
  go_quiet (first | (go_at_call 11; exact Calls.quiet_of (told_q _)) | (go_at_call 24; exact Calls.quiet_of (of_any _ _)))
  go_wp2_with fail
  go_ret
  exact ⟨ret_bool K1.out, (((Below.refl _ _).alloc (Nat.le_refl _) _).alloc (by simp) _).trans ⟨rfl, rfl, rfl, Nat.le_refl _, fun _ _ => rfl⟩⟩
set_option maxHeartbeats 1000000 in
theorem edges_1_n (a0 : Int) (hi : IntKind.u64.wrap a0 % 8 = 1) (hu : 0 ≤ IntKind.u64.wrap a0) (w : World) :
    Calls Try.prog 8 #[.int .i64 a0, .bool true] w fun e w' => e = .returned (.bool true) ∧ Below w.heap.size w w' := by
  have k1 : (ofF 18442240474082181119 == (-2147483648)) = true := by decide +kernel
  have K1 := Lib.hid k1
  clear k1
  go_enter Try.func8, Try.ntmps8
  go_wp2_with fail
  refine (inf_pos _).mono ?_
  rintro e w' ⟨rfl, rfl⟩
  go_wp2_with fail
  refine (told_law _).mono ?_
  rintro e w' ⟨rfl, rfl⟩
  go_wp2_with fail
  refine (of_any _ _).mono ?_
  rintro e w' ⟨rfl, n1, rfl⟩
  go_wp2_with fail
  go_ret
  exact ⟨ret_bool K1.out, (((Below.refl _ _).alloc (Nat.le_refl _) _).alloc (by simp) _).trans ⟨rfl, rfl, rfl, Nat.le_refl _, fun _ _ => rfl⟩⟩
set_option maxHeartbeats 1000000 in
theorem edges_2_p (a0 : Int) (hi : IntKind.u64.wrap a0 % 8 = 2) (hu : 0 ≤ IntKind.u64.wrap a0) (w : World) :
    Calls Try.prog 8 #[.int .i64 a0, .bool false] w fun e w' => e = .returned (.bool true) ∧ Below w.heap.size w w' := by
  have k1 : (ofF 4674736413210574848 == 2147483647) = true := by decide +kernel
  have K1 := Lib.hid k1
  clear k1
  go_enter Try.func8, Try.ntmps8
  go_wp2_with fail
  refine (inf_pos _).mono ?_
  rintro e w' ⟨rfl, rfl⟩
  go_wp2_with fail
  go_quiet (first | (go_at_call 11; exact Calls.quiet_of (told_q _)) | (go_at_call 24; exact Calls.quiet_of (of_any _ _)))
  go_wp2_with fail
  go_ret
  exact ⟨ret_bool K1.out, (((Below.refl _ _).alloc (Nat.le_refl _) _).alloc (by simp) _).trans ⟨rfl, rfl, rfl, Nat.le_refl _, fun _ _ => rfl⟩⟩
set_option maxHeartbeats 1000000 in
theorem edges_2_n (a0 : Int) (hi : IntKind.u64.wrap a0 % 8 = 2) (hu : 0 ≤ IntKind.u64.wrap a0) (w : World) :
    Calls Try.prog 8 #[.int .i64 a0, .bool true] w fun e w' => e = .returned (.bool true) ∧ Below w.heap.size w w' := by
  have k1 : (ofF 13898108450065350656 == (-2147483648)) = true := by decide +kernel
  have K1 := Lib.hid k1
  clear k1
  go_enter Try.func8, Try.ntmps8
  go_wp2_with fail
  refine (inf_pos _).mono ?_
  rintro e w' ⟨rfl, rfl⟩
  go_wp2_with fail
  refine (told_law _).mono ?_
  rintro e w' ⟨rfl, rfl⟩
  go_wp2_with fail
  refine (of_any _ _).mono ?_
  rintro e w' ⟨rfl, n1, rfl⟩
  go_wp2_with fail
  go_ret
  exact ⟨ret_bool K1.out, (((Below.refl _ _).alloc (Nat.le_refl _) _).alloc (by simp) _).trans ⟨rfl, rfl, rfl, Nat.le_refl _, fun _ _ => rfl⟩⟩
set_option maxHeartbeats 1000000 in
theorem edges_3_p (a0 : Int) (hi : IntKind.u64.wrap a0 % 8 = 3) (hu : 0 ≤ IntKind.u64.wrap a0) (w : World) :
    Calls Try.prog 8 #[.int .i64 a0, .bool false] w fun e w' => e = .returned (.bool true) ∧ Below w.heap.size w w' := by
  have k1 : (ofF 4674736413207826069 == 2147483647) = true := by decide +kernel
  have K1 := Lib.hid k1
  clear k1
  go_enter Try.func8, Try.ntmps8
  go_wp2_with fail
  refine (inf_pos _).mono ?_
  rintro e w' ⟨rfl, rfl⟩
  go_wp2_with fail
  go_quiet (first | (go_at_call 11; exact Calls.quiet_of (told_q _)) | (go_at_call 24; exact Calls.quiet_of (of_any _ _)))
  go_wp2_with fail
  go_ret
  exact ⟨ret_bool K1.out, (((Below.refl _ _).alloc (Nat.le_refl _) _).alloc (by simp) _).trans ⟨rfl, rfl, rfl, Nat.le_refl _, fun _ _ => rfl⟩⟩
set_option maxHeartbeats 1000000 in
theorem edges_3_n (a0 : Int) (hi : IntKind.u64.wrap a0 % 8 = 3) (hu : 0 ≤ IntKind.u64.wrap a0) (w : World) :
    Calls Try.prog 8 #[.int .i64 a0, .bool true] w fun e w' => e = .returned (.bool true) ∧ Below w.heap.size w w' := by
  have k1 : (ofF 13898108450062601877 == (-2147483647)) = true := by decide +kernel
  have K1 := Lib.hid k1
  clear k1
  go_enter Try.func8, Try.ntmps8
  go_wp2_with fail
  refine (inf_pos _).mono ?_
  rintro e w' ⟨rfl, rfl⟩
  go_wp2_with fail
  refine (told_law _).mono ?_
  rintro e w' ⟨rfl, rfl⟩
  go_wp2_with fail
  refine (of_any _ _).mono ?_
  rintro e w' ⟨rfl, n1, rfl⟩
  go_wp2_with fail
  go_ret
  exact ⟨ret_bool K1.out, (((Below.refl _ _).alloc (Nat.le_refl _) _).alloc (by simp) _).trans ⟨rfl, rfl, rfl, Nat.le_refl _, fun _ _ => rfl⟩⟩
set_option maxHeartbeats 1000000 in
theorem edges_4_p (a0 : Int) (hi : IntKind.u64.wrap a0 % 8 = 4) (hu : 0 ≤ IntKind.u64.wrap a0) (w : World) :
    Calls Try.prog 8 #[.int .i64 a0, .bool false] w fun e w' => e = .returned (.bool true) ∧ Below w.heap.size w w' := by
  have k1 : (ofF 0 == 0) = true := by decide +kernel
  have K1 := Lib.hid k1
  clear k1
  go_enter Try.func8, Try.ntmps8
  go_wp2_with fail
  refine (inf_pos _).mono ?_
  rintro e w' ⟨rfl, rfl⟩
  go_wp2_with fail
  go_quiet (first | (go_at_call 11; exact Calls.quiet_of (told_q _)) | (go_at_call 24; exact Calls.quiet_of (of_any _ _)))
  go_wp2_with fail
  go_ret
  exact ⟨ret_bool K1.out, (((Below.refl _ _).alloc (Nat.le_refl _) _).alloc (by simp) _).trans ⟨rfl, rfl, rfl, Nat.le_refl _, fun _ _ => rfl⟩⟩
set_option maxHeartbeats 1000000 in
theorem edges_4_n (a0 : Int) (hi : IntKind.u64.wrap a0 % 8 = 4) (hu : 0 ≤ IntKind.u64.wrap a0) (w : World) :
    Calls Try.prog 8 #[.int .i64 a0, .bool true] w fun e w' => e = .returned (.bool true) ∧ Below w.heap.size w w' := by
  have k1 : (ofF 9223372036854775808 == 0) = true := by decide +kernel
  have K1 := Lib.hid k1
  clear k1
  go_enter Try.func8, Try.ntmps8
  go_wp2_with fail
  refine (inf_pos _).mono ?_
  rintro e w' ⟨rfl, rfl⟩
  go_wp2_with fail
  refine (told_law _).mono ?_
  rintro e w' ⟨rfl, rfl⟩
  go_wp2_with fail
  refine (of_any _ _).mono ?_
  rintro e w' ⟨rfl, n1, rfl⟩
  go_wp2_with fail
  go_ret
  exact ⟨ret_bool K1.out, (((Below.refl _ _).alloc (Nat.le_refl _) _).alloc (by simp) _).trans ⟨rfl, rfl, rfl, Nat.le_refl _, fun _ _ => rfl⟩⟩
set_option maxHeartbeats 1000000 in
theorem edges_5_p (a0 : Int) (hi : IntKind.u64.wrap a0 % 8 = 5) (hu : 0 ≤ IntKind.u64.wrap a0) (w : World) :
    Calls Try.prog 8 #[.int .i64 a0, .bool false] w fun e w' => e = .returned (.bool true) ∧ Below w.heap.size w w' := by
  have k1 : (ofF 1 == 0) = true := by decide +kernel
  have K1 := Lib.hid k1
  clear k1
  go_enter Try.func8, Try.ntmps8
  go_wp2_with fail
  refine (inf_pos _).mono ?_
  rintro e w' ⟨rfl, rfl⟩
  go_wp2_with fail
  go_quiet (first | (go_at_call 11; exact Calls.quiet_of (told_q _)) | (go_at_call 24; exact Calls.quiet_of (of_any _ _)))
  go_wp2_with fail
  go_ret
  exact ⟨ret_bool K1.out, (((Below.refl _ _).alloc (Nat.le_refl _) _).alloc (by simp) _).trans ⟨rfl, rfl, rfl, Nat.le_refl _, fun _ _ => rfl⟩⟩
set_option maxHeartbeats 1000000 in
theorem edges_5_n (a0 : Int) (hi : IntKind.u64.wrap a0 % 8 = 5) (hu : 0 ≤ IntKind.u64.wrap a0) (w : World) :
    Calls Try.prog 8 #[.int .i64 a0, .bool true] w fun e w' => e = .returned (.bool true) ∧ Below w.heap.size w w' := by
  have k1 : (ofF 9223372036854775809 == 0) = true := by decide +kernel
  have K1 := Lib.hid k1
  clear k1
  go_enter Try.func8, Try.ntmps8
  go_wp2_with fail
  refine (inf_pos _).mono ?_
  rintro e w' ⟨rfl, rfl⟩
  go_wp2_with fail
  refine (told_law _).mono ?_
  rintro e w' ⟨rfl, rfl⟩
  go_wp2_with fail
  refine (of_any _ _).mono ?_
  rintro e w' ⟨rfl, n1, rfl⟩
  go_wp2_with fail
  go_ret
  exact ⟨ret_bool K1.out, (((Below.refl _ _).alloc (Nat.le_refl _) _).alloc (by simp) _).trans ⟨rfl, rfl, rfl, Nat.le_refl _, fun _ _ => rfl⟩⟩
set_option maxHeartbeats 1000000 in
theorem edges_6_p (a0 : Int) (hi : IntKind.u64.wrap a0 % 8 = 6) (hu : 0 ≤ IntKind.u64.wrap a0) (w : World) :
    Calls Try.prog 8 #[.int .i64 a0, .bool false] w fun e w' => e = .returned (.bool true) ∧ Below w.heap.size w w' := by
  have k1 : (ofF 4532020583610935537 == 0) = true := by decide +kernel
  have K1 := Lib.hid k1
  clear k1
  go_enter Try.func8, Try.ntmps8
  go_wp2_with fail
  refine (inf_pos _).mono ?_
  rintro e w' ⟨rfl, rfl⟩
  go_wp2_with fail
  go_quiet (first | (go_at_call 11; exact Calls.quiet_of (told_q _)) | (go_at_call 24; exact Calls.quiet_of (of_any _ _)))
  go_wp2_with fail
  go_ret
  exact ⟨ret_bool K1.out, (((Below.refl _ _).alloc (Nat.le_refl _) _).alloc (by simp) _).trans ⟨rfl, rfl, rfl, Nat.le_refl _, fun _ _ => rfl⟩⟩
set_option maxHeartbeats 1000000 in
theorem edges_6_n (a0 : Int) (hi : IntKind.u64.wrap a0 % 8 = 6) (hu : 0 ≤ IntKind.u64.wrap a0) (w : World) :
    Calls Try.prog 8 #[.int .i64 a0, .bool true] w fun e w' => e = .returned (.bool true) ∧ Below w.heap.size w w' := by
  have k1 : (ofF 13755392620465711345 == 0) = true := by decide +kernel
  have K1 := Lib.hid k1
  clear k1
  go_enter Try.func8, Try.ntmps8
  go_wp2_with fail
  refine (inf_pos _).mono ?_
  rintro e w' ⟨rfl, rfl⟩
  go_wp2_with fail
  refine (told_law _).mono ?_
  rintro e w' ⟨rfl, rfl⟩
  go_wp2_with fail
  refine (of_any _ _).mono ?_
  rintro e w' ⟨rfl, n1, rfl⟩
  go_wp2_with fail
  go_ret
  exact ⟨ret_bool K1.out, (((Below.refl _ _).alloc (Nat.le_refl _) _).alloc (by simp) _).trans ⟨rfl, rfl, rfl, Nat.le_refl _, fun _ _ => rfl⟩⟩
set_option maxHeartbeats 1000000 in
theorem edges_7_p (a0 : Int) (hi : IntKind.u64.wrap a0 % 8 = 7) (hu : 0 ≤ IntKind.u64.wrap a0) (w : World) :
    Calls Try.prog 8 #[.int .i64 a0, .bool false] w fun e w' => e = .returned (.bool true) ∧ Below w.heap.size w w' := by
  have k1 : (ofF 4607182418800017408 == 65536) = true := by decide +kernel
  have K1 := Lib.hid k1
  clear k1
  go_enter Try.func8, Try.ntmps8
  go_wp2_with fail
  refine (inf_pos _).mono ?_
  rintro e w' ⟨rfl, rfl⟩
  go_wp2_with fail
  go_quiet (first | (go_at_call 11; exact Calls.quiet_of (told_q _)) | (go_at_call 24; exact Calls.quiet_of (of_any _ _)))
  go_wp2_with fail
  go_ret
  exact ⟨ret_bool K1.out, (((Below.refl _ _).alloc (Nat.le_refl _) _).alloc (by simp) _).trans ⟨rfl, rfl, rfl, Nat.le_refl _, fun _ _ => rfl⟩⟩
set_option maxHeartbeats 1000000 in
theorem edges_7_n (a0 : Int) (hi : IntKind.u64.wrap a0 % 8 = 7) (hu : 0 ≤ IntKind.u64.wrap a0) (w : World) :
    Calls Try.prog 8 #[.int .i64 a0, .bool true] w fun e w' => e = .returned (.bool true) ∧ Below w.heap.size w w' := by
  have k1 : (ofF 13830554455654793216 == (-65536)) = true := by decide +kernel
  have K1 := Lib.hid k1
  clear k1
  go_enter Try.func8, Try.ntmps8
  go_wp2_with fail
  refine (inf_pos _).mono ?_
  rintro e w' ⟨rfl, rfl⟩
  go_wp2_with fail
  refine (told_law _).mono ?_
  rintro e w' ⟨rfl, rfl⟩
  go_wp2_with fail
  refine (of_any _ _).mono ?_
  rintro e w' ⟨rfl, n1, rfl⟩
  go_wp2_with fail
  go_ret
  exact ⟨ret_bool K1.out, (((Below.refl _ _).alloc (Nat.le_refl _) _).alloc (by simp) _).trans ⟨rfl, rfl, rfl, Nat.le_refl _, fun _ _ => rfl⟩⟩

theorem law_FixEdges (a0 : Int) (a1 : Bool) (w0 : (Lit.int .i64 a0).wf = true) (w : World) :
    Calls Try.prog 8 #[.int .i64 a0, .bool a1] w fun e w' => e = .returned (.bool true) ∧ Below w.heap.size w w' := by
  have hu : 0 ≤ IntKind.u64.wrap a0 := by simp [IntKind.wrap, IntKind.bits, IntKind.signed]; omega
  have h : IntKind.u64.wrap a0 % 8 = 0 ∨ IntKind.u64.wrap a0 % 8 = 1 ∨ IntKind.u64.wrap a0 % 8 = 2 ∨ IntKind.u64.wrap a0 % 8 = 3 ∨ IntKind.u64.wrap a0 % 8 = 4 ∨ IntKind.u64.wrap a0 % 8 = 5 ∨ IntKind.u64.wrap a0 % 8 = 6 ∨ IntKind.u64.wrap a0 % 8 = 7 := by omega
  cases a1 with
  | true =>
    rcases h with h | h | h | h | h | h | h | h
    · exact edges_0_n a0 h hu w
    · exact edges_1_n a0 h hu w
    · exact edges_2_n a0 h hu w
    · exact edges_3_n a0 h hu w
    · exact edges_4_n a0 h hu w
    · exact edges_5_n a0 h hu w
    · exact edges_6_n a0 h hu w
    · exact edges_7_n a0 h hu w
  | false =>
    rcases h with h | h | h | h | h | h | h | h
    · exact edges_0_p a0 h hu w
    · exact edges_1_p a0 h hu w
    · exact edges_2_p a0 h hu w
    · exact edges_3_p a0 h hu w
    · exact edges_4_p a0 h hu w
    · exact edges_5_p a0 h hu w
    · exact edges_6_p a0 h hu w
    · exact edges_7_p a0 h hu w
end Go.Proofs.Ytikmlkfimphjiaa
