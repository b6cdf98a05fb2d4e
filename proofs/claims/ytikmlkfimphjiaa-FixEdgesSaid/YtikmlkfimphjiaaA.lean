/-
  Fixed point: the contracts of package fix's functions over whole numbers, and of the reference's: what each call returns, for every input in range.
-/
import Derived.Test.YtikmlkfimphjiaaRows
import Derived.WalkKit
import Derived.ProofKit
import Derived.OpenShut
import Derived.Outline
import Derived.Deep.QuietTactic
import Derived.BigQuiet
import Derived.Deep.RegionWith
import Derived.Deep.Light
import Derived.Lib.Hide
import Derived.WalkLawsBesides
import Derived.Laws.FloatArith
namespace Go.Proofs.Ytikmlkfimphjiaa
set_option linter.unusedVariables false
open Go.ChangeShapes Go.WideShapes Go.ChangeAt Go.RowKit

theorem ret_bool {a b : Bool} (h : a = b) : Ending.returned (.bool a) = .returned (.bool b) := by rw [h]
theorem ret_int {k : IntKind} {a b : Int} (h : a = b) : Ending.returned (.int k a) = .returned (.int k b) := by rw [h]

/-- Cut to 32 bits. -/
def cl (x : Int) : Int := if x < -2147483648 then -2147483648 else if 2147483647 < x then 2147483647 else x
theorem cl_lo (x : Int) : -2147483648 ≤ cl x := by unfold cl; split <;> try split
                                                   all_goals omega
theorem cl_hi (x : Int) : cl x ≤ 2147483647 := by unfold cl; split <;> try split
                                                  all_goals omega

theorem cut_any (a : Int) (w : World) :
    Calls Try.prog 36 #[.int .i64 a] w fun e w' => e = .returned (.int .i32 (cl a)) ∧ w = w' := by
  unfold cl
  go_enter Try.func36, Try.ntmps36
  go_wp2
  all_goals go_ret
  all_goals (refine ⟨ret_int ?_, rfl⟩; repeat' split)
  all_goals omega
theorem rcut_any (a : Int) (w : World) :
    Calls Try.prog 32 #[.int .i64 a] w fun e w' => e = .returned (.int .i32 (cl a)) ∧ w = w' := by
  unfold cl
  go_enter Try.func32, Try.ntmps32
  go_wp2
  all_goals go_ret
  all_goals (refine ⟨ret_int ?_, rfl⟩; repeat' split)
  all_goals omega

theorem mul_bd (a b : Int) (a0 : -2147483648 ≤ a) (a1 : a ≤ 2147483647) (b0 : -2147483648 ≤ b) (b1 : b ≤ 2147483647) : -4611686018427387904 ≤ a * b ∧ a * b ≤ 4611686018427387904 := by
  have h : (a * b).natAbs ≤ 2147483648 * 2147483648 := by
    rw [Int.natAbs_mul]; exact Nat.mul_le_mul (by omega) (by omega)
  omega
theorem tdiv_bd (x y : Int) (n : Nat) (h : x.natAbs ≤ n) : -(n : Int) ≤ x.tdiv y ∧ x.tdiv y ≤ n := by
  have h2 : (x.tdiv y).natAbs ≤ n := by
    rw [Int.natAbs_tdiv]; exact Nat.le_trans (Nat.div_le_self _ _) h
  omega
theorem mulw (a b : Int) (a0 : -2147483648 ≤ a) (a1 : a ≤ 2147483647) (b0 : -2147483648 ≤ b) (b1 : b ≤ 2147483647) : wrap64 ((wrap64 (a * b)).tdiv 65536) = (a * b).tdiv 65536 := by
  obtain ⟨h1, h2⟩ := mul_bd a b a0 a1 b0 b1
  have e1 : wrap64 (a * b) = a * b := by unfold wrap64; omega
  rw [e1]
  have h3 := tdiv_bd (a * b) 65536 4611686018427387904 (by omega)
  unfold wrap64; omega
theorem divw (a b : Int) (a0 : -2147483648 ≤ a) (a1 : a ≤ 2147483647) : wrap64 ((a * 65536).tdiv b) = (a * 65536).tdiv b := by
  have h3 := tdiv_bd (a * 65536) b 140737488355328 (by omega)
  unfold wrap64; omega

section
variable (a b : Int) (w : World) (a0 : -2147483648 ≤ a) (a1 : a ≤ 2147483647) (b0 : -2147483648 ≤ b) (b1 : b ≤ 2147483647)
include a0 a1 b0 b1

theorem add_clos : Calls Try.prog 31 #[.int .i64 a, .int .i64 b] w fun e w' => e = .returned (.int .i64 (a + b)) ∧ w = w' := by
  go_enter Try.func31, Try.ntmps31
  go_wp2
  go_ret
  exact ⟨rfl, rfl⟩
theorem add_does : Calls Try.prog 30 #[.int .i32 a, .int .i32 b, .func (.func 31) #[] #[]] w fun e w' => e = .returned (.int .i32 (cl (a + b))) ∧ w = w' := by
  go_enter Try.func30, Try.ntmps30
  go_wp2_with fail
  refine (add_clos a b w a0 a1 b0 b1).mono ?_
  rintro e w' ⟨rfl, rfl⟩
  go_wp2_with fail
  refine (cut_any _ _).mono ?_
  rintro e w' ⟨rfl, rfl⟩
  go_wp2_with fail
  go_ret
  exact ⟨rfl, rfl⟩
theorem add_any : Calls Try.prog 12 #[.int .i32 a, .int .i32 b] w fun e w' => e = .returned (.int .i32 (cl (a + b))) ∧ w = w' := by
  go_enter Try.func12, Try.ntmps12
  go_wp2_with fail
  refine (add_does a b w a0 a1 b0 b1).mono ?_
  rintro e w' ⟨rfl, rfl⟩
  go_wp2_with fail
  go_ret
  exact ⟨rfl, rfl⟩
theorem radd_any : Calls Try.prog 13 #[.int .i32 a, .int .i32 b] w fun e w' => e = .returned (.int .i32 (cl (a + b))) ∧ w = w' := by
  go_enter Try.func13, Try.ntmps13
  go_wp2_with fail
  refine (rcut_any _ _).mono ?_
  rintro e w' ⟨rfl, rfl⟩
  go_wp2_with fail
  go_ret
  exact ⟨rfl, rfl⟩

theorem sub_clos : Calls Try.prog 33 #[.int .i64 a, .int .i64 b] w fun e w' => e = .returned (.int .i64 (a - b)) ∧ w = w' := by
  go_enter Try.func33, Try.ntmps33
  go_wp2
  go_ret
  exact ⟨rfl, rfl⟩
theorem sub_does : Calls Try.prog 30 #[.int .i32 a, .int .i32 b, .func (.func 33) #[] #[]] w fun e w' => e = .returned (.int .i32 (cl (a - b))) ∧ w = w' := by
  go_enter Try.func30, Try.ntmps30
  go_wp2_with fail
  refine (sub_clos a b w a0 a1 b0 b1).mono ?_
  rintro e w' ⟨rfl, rfl⟩
  go_wp2_with fail
  refine (cut_any _ _).mono ?_
  rintro e w' ⟨rfl, rfl⟩
  go_wp2_with fail
  go_ret
  exact ⟨rfl, rfl⟩
theorem sub_any : Calls Try.prog 14 #[.int .i32 a, .int .i32 b] w fun e w' => e = .returned (.int .i32 (cl (a - b))) ∧ w = w' := by
  go_enter Try.func14, Try.ntmps14
  go_wp2_with fail
  refine (sub_does a b w a0 a1 b0 b1).mono ?_
  rintro e w' ⟨rfl, rfl⟩
  go_wp2_with fail
  go_ret
  exact ⟨rfl, rfl⟩
theorem rsub_any : Calls Try.prog 15 #[.int .i32 a, .int .i32 b] w fun e w' => e = .returned (.int .i32 (cl (a - b))) ∧ w = w' := by
  go_enter Try.func15, Try.ntmps15
  go_wp2_with fail
  refine (rcut_any _ _).mono ?_
  rintro e w' ⟨rfl, rfl⟩
  go_wp2_with fail
  go_ret
  exact ⟨rfl, rfl⟩

theorem mul_clos : Calls Try.prog 34 #[.int .i64 a, .int .i64 b] w fun e w' => e = .returned (.int .i64 ((a * b).tdiv 65536)) ∧ w = w' := by
  go_enter Try.func34, Try.ntmps34
  go_wp2
  go_ret
  exact ⟨ret_int (mulw a b a0 a1 b0 b1), rfl⟩
theorem mul_does : Calls Try.prog 30 #[.int .i32 a, .int .i32 b, .func (.func 34) #[] #[]] w fun e w' => e = .returned (.int .i32 (cl ((a * b).tdiv 65536))) ∧ w = w' := by
  go_enter Try.func30, Try.ntmps30
  go_wp2_with fail
  refine (mul_clos a b w a0 a1 b0 b1).mono ?_
  rintro e w' ⟨rfl, rfl⟩
  go_wp2_with fail
  refine (cut_any _ _).mono ?_
  rintro e w' ⟨rfl, rfl⟩
  go_wp2_with fail
  go_ret
  exact ⟨rfl, rfl⟩
theorem mul_any : Calls Try.prog 16 #[.int .i32 a, .int .i32 b] w fun e w' => e = .returned (.int .i32 (cl ((a * b).tdiv 65536))) ∧ w = w' := by
  go_enter Try.func16, Try.ntmps16
  go_wp2_with fail
  refine (mul_does a b w a0 a1 b0 b1).mono ?_
  rintro e w' ⟨rfl, rfl⟩
  go_wp2_with fail
  go_ret
  exact ⟨rfl, rfl⟩
theorem rmul_any : Calls Try.prog 17 #[.int .i32 a, .int .i32 b] w fun e w' => e = .returned (.int .i32 (cl ((a * b).tdiv 65536))) ∧ w = w' := by
  go_enter Try.func17, Try.ntmps17
  go_wp2_with fail
  refine (rcut_any _ _).mono ?_
  rintro e w' ⟨rfl, rfl⟩
  go_wp2_with fail
  go_ret
  exact ⟨ret_int (congrArg cl (mulw a b a0 a1 b0 b1)), rfl⟩


end

def divV (a b : Int) : Int := if b = 0 then (if 0 < a then 2147483647 else if a < 0 then -2147483648 else 0) else (a * 65536).tdiv b

theorem div_clos (a b : Int) (w : World) (a0 : -2147483648 ≤ a) (a1 : a ≤ 2147483647) (b0 : -2147483648 ≤ b) (b1 : b ≤ 2147483647) : Calls Try.prog 35 #[.int .i64 a, .int .i64 b] w fun e w' => e = .returned (.int .i64 (divV a b)) ∧ w = w' := by
  unfold divV
  by_cases hb : b = 0
  · subst hb
    rw [if_pos rfl]
    by_cases h1 : 0 < a
    · rw [if_pos h1]
      go_enter Try.func35, Try.ntmps35
      go_wp2
      go_ret
      exact ⟨rfl, rfl⟩
    · rw [if_neg h1]
      by_cases h2 : a < 0
      · rw [if_pos h2]
        go_enter Try.func35, Try.ntmps35
        go_wp2
        go_ret
        exact ⟨rfl, rfl⟩
      · rw [if_neg h2]
        go_enter Try.func35, Try.ntmps35
        go_wp2
        go_ret
        exact ⟨rfl, rfl⟩
  · rw [if_neg hb]
    have hb' : (b != 0) = true := by rw [bne_iff_ne]; exact hb
    go_enter Try.func35, Try.ntmps35
    go_wp2
    go_ret
    exact ⟨ret_int (divw a b a0 a1), rfl⟩
theorem div_does (a b : Int) (w : World) (a0 : -2147483648 ≤ a) (a1 : a ≤ 2147483647) (b0 : -2147483648 ≤ b) (b1 : b ≤ 2147483647) : Calls Try.prog 30 #[.int .i32 a, .int .i32 b, .func (.func 35) #[] #[]] w fun e w' => e = .returned (.int .i32 (cl (divV a b))) ∧ w = w' := by
  go_enter Try.func30, Try.ntmps30
  go_wp2_with fail
  refine (div_clos a b w a0 a1 b0 b1).mono ?_
  rintro e w' ⟨rfl, rfl⟩
  go_wp2_with fail
  refine (cut_any _ _).mono ?_
  rintro e w' ⟨rfl, rfl⟩
  go_wp2_with fail
  go_ret
  exact ⟨rfl, rfl⟩
theorem div_any (a b : Int) (w : World) (a0 : -2147483648 ≤ a) (a1 : a ≤ 2147483647) (b0 : -2147483648 ≤ b) (b1 : b ≤ 2147483647) : Calls Try.prog 18 #[.int .i32 a, .int .i32 b] w fun e w' => e = .returned (.int .i32 (cl (divV a b))) ∧ w = w' := by
  go_enter Try.func18, Try.ntmps18
  go_wp2_with fail
  refine (div_does a b w a0 a1 b0 b1).mono ?_
  rintro e w' ⟨rfl, rfl⟩
  go_wp2_with fail
  go_ret
  exact ⟨rfl, rfl⟩
theorem rdiv_any (a b : Int) (w : World) (a0 : -2147483648 ≤ a) (a1 : a ≤ 2147483647) (b0 : -2147483648 ≤ b) (b1 : b ≤ 2147483647) : Calls Try.prog 19 #[.int .i32 a, .int .i32 b] w fun e w' => e = .returned (.int .i32 (cl (divV a b))) ∧ w = w' := by
  by_cases hb : b = 0
  · subst hb
    by_cases h1 : 0 < a
    · have e : cl (divV a 0) = 2147483647 := by simp [divV, h1, cl]
      rw [e]
      go_enter Try.func19, Try.ntmps19
      go_wp2
      go_ret
      exact ⟨rfl, rfl⟩
    · by_cases h2 : a < 0
      · have e : cl (divV a 0) = -2147483648 := by simp [divV, h1, h2, cl]
        rw [e]
        go_enter Try.func19, Try.ntmps19
        go_wp2
        go_ret
        exact ⟨rfl, rfl⟩
      · have e : cl (divV a 0) = 0 := by simp [divV, h1, h2, cl]
        rw [e]
        go_enter Try.func19, Try.ntmps19
        go_wp2
        go_ret
        exact ⟨rfl, rfl⟩
  · have hb' : (b != 0) = true := by rw [bne_iff_ne]; exact hb
    unfold divV
    rw [if_neg hb]
    go_enter Try.func19, Try.ntmps19
    go_wp2_with fail
    refine (rcut_any _ _).mono ?_
    rintro e w' ⟨rfl, rfl⟩
    go_wp2_with fail
    go_ret
    exact ⟨ret_int (congrArg cl (divw a b a0 a1)), rfl⟩

def clampV (a lo hi : Int) : Int := if hi < lo then hi else min (max a lo) hi

theorem clamp_any (a lo hi : Int) (w : World) : Calls Try.prog 22 #[.int .i32 a, .int .i32 lo, .int .i32 hi] w fun e w' => e = .returned (.int .i32 (clampV a lo hi)) ∧ w = w' := by
  unfold clampV
  by_cases h : hi < lo
  · rw [if_pos h]
    go_enter Try.func22, Try.ntmps22
    go_wp2
    go_ret
    exact ⟨rfl, rfl⟩
  · rw [if_neg h]
    go_enter Try.func22, Try.ntmps22
    go_wp2
    all_goals go_ret
    all_goals exact ⟨ret_int (by omega), rfl⟩
theorem rclamp_any (a lo hi : Int) (w : World) : Calls Try.prog 23 #[.int .i32 a, .int .i32 lo, .int .i32 hi] w fun e w' => e = .returned (.int .i32 (clampV a lo hi)) ∧ w = w' := by
  unfold clampV
  by_cases h : hi < lo
  · rw [if_pos h]
    go_enter Try.func23, Try.ntmps23
    go_wp2
    go_ret
    exact ⟨rfl, rfl⟩
  · rw [if_neg h]
    go_enter Try.func23, Try.ntmps23
    go_wp2
    all_goals go_ret
    all_goals exact ⟨ret_int (by omega), rfl⟩

theorem size_any (b : Int) (w : World) (b0 : -2147483648 ≤ b) (b1 : b ≤ 2147483647) : Calls Try.prog 27 #[.int .i32 b] w fun e w' => e = .returned (.int .i64 (b.natAbs : Int)) ∧ w = w' := by
  by_cases h : b < 0
  · have e : ((b.natAbs : Nat) : Int) = -b := by omega
    rw [e]
    go_enter Try.func27, Try.ntmps27
    go_wp2
    go_ret
    exact ⟨rfl, rfl⟩
  · have e : ((b.natAbs : Nat) : Int) = b := by omega
    rw [e]
    go_enter Try.func27, Try.ntmps27
    go_wp2
    go_ret
    exact ⟨rfl, rfl⟩
end Go.Proofs.Ytikmlkfimphjiaa
