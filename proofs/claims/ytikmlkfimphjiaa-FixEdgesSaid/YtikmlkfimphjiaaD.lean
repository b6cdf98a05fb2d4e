/-
  Fixed point: the few examples are told; the Go text of FixRing, FixParts, FixClamps, FixMixes returns true for every input.
-/
import Derived.Test.YtikmlkfimphjiaaC
namespace Go.Proofs.Ytikmlkfimphjiaa
set_option linter.unusedVariables false
open Go.ChangeShapes Go.WideShapes Go.ChangeAt Go.RowKit

theorem i32_bd {a : Int} (h : (Lit.int .i32 a).wf = true) : -2147483648 ≤ a ∧ a ≤ 2147483647 := bounds_i32 h

theorem of_one (w : World) : Calls Try.prog 24 #[.float .f64 4607182418800017408] w fun e w' => e = .returned (.int .i32 65536) ∧ w = w' :=
  of_mid _ 4679240012837945344 _ w (by decide +kernel) (by decide +kernel) (by decide +kernel) (by decide +kernel) (by decide +kernel) (by decide +kernel) (by decide +kernel)
theorem of_neginf (w : World) : Calls Try.prog 24 #[.float .f64 18442240474082181120] w fun e w' => e = .returned (.int .i32 (-2147483648)) ∧ w = w' :=
  of_min _ 18442240474082181120 w (by decide +kernel) (by decide +kernel) (by decide +kernel) (by decide +kernel) (by decide +kernel)
theorem of_nanv (w : World) : Calls Try.prog 24 #[.float .f64 9221120237041090561] w fun e w' => e = .returned (.int .i32 0) ∧ w' = w.drew :=
  of_nan _ w (by decide +kernel)
theorem float_half (w : World) : Calls Try.prog 26 #[.int .i32 32768] w fun e w' => e = .returned (.float .f64 4602678819172646912) ∧ w = w' :=
  float_any _ _ w (by decide +kernel)
theorem root_four (w : World) : Calls Try.prog 20 #[.int .i32 262144] w fun e w' => e = .returned (.int .i32 131072) ∧ w = w' := by
  refine (root_pos 262144 w (by omega) (by omega)).mono ?_
  rintro e w' ⟨⟨r, rfl, hr⟩, rfl⟩
  have : r = 131072 := hr.unique (by refine ⟨by decide, by decide, by decide⟩)
  exact ⟨by rw [this], rfl⟩

theorem told_law (w : World) : Calls Try.prog 11 #[] w fun e w' => e = .returned (.bool true) ∧ w' = w.drew := by
  have k1 : cl ((32768 * 32768 : Int).tdiv 65536) = 16384 := by decide
  have k2 : cl (divV 65536 0) = 2147483647 := by decide
  have k3 : cl (2147483647 + 1) = 2147483647 := by decide
  have k4 : cl (-2147483648 - 1) = -2147483648 := by decide
  have k5 : clampV 5 7 3 = 3 := by decide
  have K1 := Lib.hid k1
  have K2 := Lib.hid k2
  have K3 := Lib.hid k3
  have K4 := Lib.hid k4
  have K5 := Lib.hid k5
  have k6 : (fo 4602678819172646912 4602678819172646912 == some Ordering.eq) = true := by decide +kernel
  clear k1 k2 k3 k4 k5
  go_enter Try.func11, Try.ntmps11
  go_wp2_with fail
  refine (of_one _).mono ?_
  rintro e w' ⟨rfl, rfl⟩
  go_wp2_with fail
  refine (float_half _).mono ?_
  rintro e w' ⟨rfl, rfl⟩
  go_wp2_with fail
  refine (mul_any _ _ _ (by omega) (by omega) (by omega) (by omega)).mono ?_
  rintro e w' ⟨rfl, rfl⟩
  rw [K1.out]
  go_wp2_with fail
  refine (div_any _ _ _ (by omega) (by omega) (by omega) (by omega)).mono ?_
  rintro e w' ⟨rfl, rfl⟩
  rw [K2.out]
  go_wp2_with fail
  refine (root_four _).mono ?_
  rintro e w' ⟨rfl, rfl⟩
  go_wp2_with fail
  refine (add_any _ _ _ (by omega) (by omega) (by omega) (by omega)).mono ?_
  rintro e w' ⟨rfl, rfl⟩
  rw [K3.out]
  go_wp2_with fail
  refine (sub_any _ _ _ (by omega) (by omega) (by omega) (by omega)).mono ?_
  rintro e w' ⟨rfl, rfl⟩
  rw [K4.out]
  go_wp2_with fail
  refine (clamp_any _ _ _ _).mono ?_
  rintro e w' ⟨rfl, rfl⟩
  rw [K5.out]
  go_wp2_with fail
  refine (nan_val _).mono ?_
  rintro e w' ⟨rfl, rfl⟩
  go_wp2_with fail
  refine (of_nanv _).mono ?_
  rintro e w' ⟨rfl, rfl⟩
  go_wp2_with fail
  refine (inf_neg _).mono ?_
  rintro e w' ⟨rfl, rfl⟩
  go_wp2_with fail
  refine (of_neginf _).mono ?_
  rintro e w' ⟨rfl, rfl⟩
  go_wp2_with fail
  go_ret
  exact ⟨rfl, rfl⟩
theorem below_drew (w : World) : Below w.heap.size w w.drew := (Below.refl _ _).drew
-- LAWS
set_option maxHeartbeats 1000000 in
theorem ring_hi (a0 a1 : Int) (a00 : -2147483648 ≤ a0) (a01 : a0 ≤ 2147483647) (a10 : -2147483648 ≤ a1) (a11 : a1 ≤ 2147483647) (h : 2147483647 < a0 + a1) (w : World) :
    Calls Try.prog 5 #[.int .i32 a0, .int .i32 a1] w fun e w' => e = .returned (.bool true) ∧ Below w.heap.size w w' := by
  have S1 := Lib.hid (show cl (a0 + a1) = 2147483647 by
    unfold cl; split <;> try split
    all_goals omega)
  have S2 := Lib.hid (show cl (a1 + a0) = 2147483647 by rw [Int.add_comm]; exact S1.out)
  have M1 := Lib.hid (show cl ((a0 * 65536).tdiv 65536) = a0 by rw [Int.mul_tdiv_cancel _ (by omega)]; unfold cl; rw [if_neg (by omega), if_neg (by omega)])
  have M0 := Lib.hid (show cl ((a0 * 0).tdiv 65536) = 0 by rw [Int.mul_zero]; decide)
  have D1 := Lib.hid (show cl (divV a0 65536) = a0 by unfold divV; rw [if_neg (by omega)]; exact M1.out)
  have A0 := Lib.hid (show cl (a0 + 0) = a0 by rw [Int.add_zero]; unfold cl; rw [if_neg (by omega), if_neg (by omega)])
  have MC := Lib.hid (show cl ((a1 * a0).tdiv 65536) = cl ((a0 * a1).tdiv 65536) by rw [Int.mul_comm])
  have q1 : (cl ((a0 * a1).tdiv 65536) == cl ((a0 * a1).tdiv 65536)) = true := by simp
  have q2 : (a0 == a0) = true := by simp
  have q3 : (a0 + a1 == a0 + a1) = true := by simp
  go_enter Try.func5, Try.ntmps5
  go_wp2_with fail
  refine (told_law _).mono ?_
  rintro e w' ⟨rfl, rfl⟩
  go_wp2_with fail
  refine (add_any _ _ _ (by omega) (by omega) (by omega) (by omega)).mono ?_
  rintro e w' ⟨rfl, rfl⟩
  rw [S1.out]
  go_wp2_with fail
  refine (add_any _ _ _ (by omega) (by omega) (by omega) (by omega)).mono ?_
  rintro e w' ⟨rfl, rfl⟩
  rw [S2.out]
  go_wp2_with fail
  refine (mul_any _ _ _ (by omega) (by omega) (by omega) (by omega)).mono ?_
  rintro e w' ⟨rfl, rfl⟩
  go_wp2_with fail
  refine (mul_any _ _ _ (by omega) (by omega) (by omega) (by omega)).mono ?_
  rintro e w' ⟨rfl, rfl⟩
  rw [MC.out]
  go_wp2_with fail
  refine (mul_any _ _ _ (by omega) (by omega) (by omega) (by omega)).mono ?_
  rintro e w' ⟨rfl, rfl⟩
  rw [M1.out]
  go_wp2_with fail
  refine (mul_any _ _ _ (by omega) (by omega) (by omega) (by omega)).mono ?_
  rintro e w' ⟨rfl, rfl⟩
  rw [M0.out]
  go_wp2_with fail
  refine (div_any _ _ _ (by omega) (by omega) (by omega) (by omega)).mono ?_
  rintro e w' ⟨rfl, rfl⟩
  rw [D1.out]
  go_wp2_with fail
  refine (add_any _ _ _ (by omega) (by omega) (by omega) (by omega)).mono ?_
  rintro e w' ⟨rfl, rfl⟩
  rw [A0.out]
  go_wp2_with fail
  refine (add_any _ _ _ (by omega) (by omega) (by omega) (by omega)).mono ?_
  rintro e w' ⟨rfl, rfl⟩
  rw [S1.out]
  go_wp2_with fail
  go_ret
  exact ⟨rfl, below_drew _⟩
set_option maxHeartbeats 1000000 in
theorem ring_lo (a0 a1 : Int) (a00 : -2147483648 ≤ a0) (a01 : a0 ≤ 2147483647) (a10 : -2147483648 ≤ a1) (a11 : a1 ≤ 2147483647) (h : a0 + a1 < -2147483648) (w : World) :
    Calls Try.prog 5 #[.int .i32 a0, .int .i32 a1] w fun e w' => e = .returned (.bool true) ∧ Below w.heap.size w w' := by
  have S1 := Lib.hid (show cl (a0 + a1) = -2147483648 by
    unfold cl; split <;> try split
    all_goals omega)
  have S2 := Lib.hid (show cl (a1 + a0) = -2147483648 by rw [Int.add_comm]; exact S1.out)
  have M1 := Lib.hid (show cl ((a0 * 65536).tdiv 65536) = a0 by rw [Int.mul_tdiv_cancel _ (by omega)]; unfold cl; rw [if_neg (by omega), if_neg (by omega)])
  have M0 := Lib.hid (show cl ((a0 * 0).tdiv 65536) = 0 by rw [Int.mul_zero]; decide)
  have D1 := Lib.hid (show cl (divV a0 65536) = a0 by unfold divV; rw [if_neg (by omega)]; exact M1.out)
  have A0 := Lib.hid (show cl (a0 + 0) = a0 by rw [Int.add_zero]; unfold cl; rw [if_neg (by omega), if_neg (by omega)])
  have MC := Lib.hid (show cl ((a1 * a0).tdiv 65536) = cl ((a0 * a1).tdiv 65536) by rw [Int.mul_comm])
  have q1 : (cl ((a0 * a1).tdiv 65536) == cl ((a0 * a1).tdiv 65536)) = true := by simp
  have q2 : (a0 == a0) = true := by simp
  have q3 : (a0 + a1 == a0 + a1) = true := by simp
  go_enter Try.func5, Try.ntmps5
  go_wp2_with fail
  refine (told_law _).mono ?_
  rintro e w' ⟨rfl, rfl⟩
  go_wp2_with fail
  refine (add_any _ _ _ (by omega) (by omega) (by omega) (by omega)).mono ?_
  rintro e w' ⟨rfl, rfl⟩
  rw [S1.out]
  go_wp2_with fail
  refine (add_any _ _ _ (by omega) (by omega) (by omega) (by omega)).mono ?_
  rintro e w' ⟨rfl, rfl⟩
  rw [S2.out]
  go_wp2_with fail
  refine (mul_any _ _ _ (by omega) (by omega) (by omega) (by omega)).mono ?_
  rintro e w' ⟨rfl, rfl⟩
  go_wp2_with fail
  refine (mul_any _ _ _ (by omega) (by omega) (by omega) (by omega)).mono ?_
  rintro e w' ⟨rfl, rfl⟩
  rw [MC.out]
  go_wp2_with fail
  refine (mul_any _ _ _ (by omega) (by omega) (by omega) (by omega)).mono ?_
  rintro e w' ⟨rfl, rfl⟩
  rw [M1.out]
  go_wp2_with fail
  refine (mul_any _ _ _ (by omega) (by omega) (by omega) (by omega)).mono ?_
  rintro e w' ⟨rfl, rfl⟩
  rw [M0.out]
  go_wp2_with fail
  refine (div_any _ _ _ (by omega) (by omega) (by omega) (by omega)).mono ?_
  rintro e w' ⟨rfl, rfl⟩
  rw [D1.out]
  go_wp2_with fail
  refine (add_any _ _ _ (by omega) (by omega) (by omega) (by omega)).mono ?_
  rintro e w' ⟨rfl, rfl⟩
  rw [A0.out]
  go_wp2_with fail
  refine (add_any _ _ _ (by omega) (by omega) (by omega) (by omega)).mono ?_
  rintro e w' ⟨rfl, rfl⟩
  rw [S1.out]
  go_wp2_with fail
  refine (add_any _ _ _ (by omega) (by omega) (by omega) (by omega)).mono ?_
  rintro e w' ⟨rfl, rfl⟩
  rw [S1.out]
  go_wp2_with fail
  go_ret
  exact ⟨rfl, below_drew _⟩
set_option maxHeartbeats 1000000 in
theorem ring_in (a0 a1 : Int) (a00 : -2147483648 ≤ a0) (a01 : a0 ≤ 2147483647) (a10 : -2147483648 ≤ a1) (a11 : a1 ≤ 2147483647) (h : -2147483648 ≤ a0 + a1 ∧ a0 + a1 ≤ 2147483647) (w : World) :
    Calls Try.prog 5 #[.int .i32 a0, .int .i32 a1] w fun e w' => e = .returned (.bool true) ∧ Below w.heap.size w w' := by
  obtain ⟨hl, hh⟩ := h
  have S1 := Lib.hid (show cl (a0 + a1) = a0 + a1 by
    unfold cl; split <;> try split
    all_goals omega)
  have S2 := Lib.hid (show cl (a1 + a0) = a0 + a1 by rw [Int.add_comm]; exact S1.out)
  have M1 := Lib.hid (show cl ((a0 * 65536).tdiv 65536) = a0 by rw [Int.mul_tdiv_cancel _ (by omega)]; unfold cl; rw [if_neg (by omega), if_neg (by omega)])
  have M0 := Lib.hid (show cl ((a0 * 0).tdiv 65536) = 0 by rw [Int.mul_zero]; decide)
  have D1 := Lib.hid (show cl (divV a0 65536) = a0 by unfold divV; rw [if_neg (by omega)]; exact M1.out)
  have A0 := Lib.hid (show cl (a0 + 0) = a0 by rw [Int.add_zero]; unfold cl; rw [if_neg (by omega), if_neg (by omega)])
  have MC := Lib.hid (show cl ((a1 * a0).tdiv 65536) = cl ((a0 * a1).tdiv 65536) by rw [Int.mul_comm])
  have SB := Lib.hid (show cl (a0 + a1 - a1) = a0 by rw [Int.add_sub_cancel]; unfold cl; rw [if_neg (by omega), if_neg (by omega)])
  have q1 : (cl ((a0 * a1).tdiv 65536) == cl ((a0 * a1).tdiv 65536)) = true := by simp
  have q2 : (a0 == a0) = true := by simp
  have q3 : (a0 + a1 == a0 + a1) = true := by simp
  go_enter Try.func5, Try.ntmps5
  go_wp2_with fail
  refine (told_law _).mono ?_
  rintro e w' ⟨rfl, rfl⟩
  go_wp2_with fail
  refine (add_any _ _ _ (by omega) (by omega) (by omega) (by omega)).mono ?_
  rintro e w' ⟨rfl, rfl⟩
  rw [S1.out]
  go_wp2_with fail
  refine (add_any _ _ _ (by omega) (by omega) (by omega) (by omega)).mono ?_
  rintro e w' ⟨rfl, rfl⟩
  rw [S2.out]
  go_wp2_with fail
  refine (mul_any _ _ _ (by omega) (by omega) (by omega) (by omega)).mono ?_
  rintro e w' ⟨rfl, rfl⟩
  go_wp2_with fail
  refine (mul_any _ _ _ (by omega) (by omega) (by omega) (by omega)).mono ?_
  rintro e w' ⟨rfl, rfl⟩
  rw [MC.out]
  go_wp2_with fail
  refine (mul_any _ _ _ (by omega) (by omega) (by omega) (by omega)).mono ?_
  rintro e w' ⟨rfl, rfl⟩
  rw [M1.out]
  go_wp2_with fail
  refine (mul_any _ _ _ (by omega) (by omega) (by omega) (by omega)).mono ?_
  rintro e w' ⟨rfl, rfl⟩
  rw [M0.out]
  go_wp2_with fail
  refine (div_any _ _ _ (by omega) (by omega) (by omega) (by omega)).mono ?_
  rintro e w' ⟨rfl, rfl⟩
  rw [D1.out]
  go_wp2_with fail
  refine (add_any _ _ _ (by omega) (by omega) (by omega) (by omega)).mono ?_
  rintro e w' ⟨rfl, rfl⟩
  rw [A0.out]
  go_wp2_with fail
  refine (add_any _ _ _ (by omega) (by omega) (by omega) (by omega)).mono ?_
  rintro e w' ⟨rfl, rfl⟩
  rw [S1.out]
  go_wp2_with fail
  refine (sub_any _ _ _ (by omega) (by omega) (by omega) (by omega)).mono ?_
  rintro e w' ⟨rfl, rfl⟩
  rw [SB.out]
  go_wp2_with fail
  go_ret
  exact ⟨rfl, below_drew _⟩
theorem law_FixRing (a0 a1 : Int) (w0 : (Lit.int .i32 a0).wf = true) (w1 : (Lit.int .i32 a1).wf = true) (w : World) :
    Calls Try.prog 5 #[.int .i32 a0, .int .i32 a1] w fun e w' => e = .returned (.bool true) ∧ Below w.heap.size w w' := by
  obtain ⟨a00, a01⟩ := i32_bd w0
  obtain ⟨a10, a11⟩ := i32_bd w1
  by_cases h1 : 2147483647 < a0 + a1
  · exact ring_hi a0 a1 a00 a01 a10 a11 h1 w
  · by_cases h2 : a0 + a1 < -2147483648
    · exact ring_lo a0 a1 a00 a01 a10 a11 h2 w
    · exact ring_in a0 a1 a00 a01 a10 a11 ⟨by omega, by omega⟩ w

theorem clamp_in (a lo hi : Int) (h : lo ≤ hi) : lo ≤ clampV a lo hi ∧ clampV a lo hi ≤ hi ∧ (lo ≤ a → a ≤ hi → clampV a lo hi = a) ∧ clampV (clampV a lo hi) lo hi = clampV a lo hi := by
  unfold clampV; rw [if_neg (by omega), if_neg (by omega)]; omega
theorem law_FixClamps (a0 a1 a2 : Int) (w0 : (Lit.int .i32 a0).wf = true) (w1 : (Lit.int .i32 a1).wf = true) (w2 : (Lit.int .i32 a2).wf = true) (w : World) :
    Calls Try.prog 7 #[.int .i32 a0, .int .i32 a1, .int .i32 a2] w fun e w' => e = .returned (.bool true) ∧ Below w.heap.size w w' := by
  clear w0 w1 w2
  by_cases h : a2 < a1
  · have C := Lib.hid (show clampV a0 a1 a2 = a2 by unfold clampV; rw [if_pos h])
    have q2 : (a2 == a2) = true := by simp
    go_enter Try.func7, Try.ntmps7
    go_wp2_with fail
    refine (clamp_any _ _ _ _).mono ?_
    rintro e w' ⟨rfl, rfl⟩
    rw [C.out]
    go_wp2_with fail
    refine (told_law _).mono ?_
    rintro e w' ⟨rfl, rfl⟩
    go_wp2_with fail
    go_ret
    exact ⟨rfl, below_drew _⟩
  · obtain ⟨c1, c2, c3, c4⟩ := clamp_in a0 a1 a2 (by omega)
    have C4 := Lib.hid c4
    have C3 := Lib.hid c3
    clear c4 c3
    have q2 : (clampV a0 a1 a2 == clampV a0 a1 a2) = true := by simp
    by_cases h1 : a0 < a1
    · go_enter Try.func7, Try.ntmps7
      go_wp2_with fail
      refine (clamp_any _ _ _ _).mono ?_
      rintro e w' ⟨rfl, rfl⟩
      go_wp2_with fail
      refine (told_law _).mono ?_
      rintro e w' ⟨rfl, rfl⟩
      go_wp2_with fail
      refine (clamp_any _ _ _ _).mono ?_
      rintro e w' ⟨rfl, rfl⟩
      rw [C4.out]
      go_wp2_with fail
      go_ret
      exact ⟨rfl, below_drew _⟩
    · by_cases h2 : a2 < a0
      · go_enter Try.func7, Try.ntmps7
        go_wp2_with fail
        refine (clamp_any _ _ _ _).mono ?_
        rintro e w' ⟨rfl, rfl⟩
        go_wp2_with fail
        refine (told_law _).mono ?_
        rintro e w' ⟨rfl, rfl⟩
        go_wp2_with fail
        refine (clamp_any _ _ _ _).mono ?_
        rintro e w' ⟨rfl, rfl⟩
        rw [C4.out]
        go_wp2_with fail
        go_ret
        exact ⟨rfl, below_drew _⟩
      · have C5 := Lib.hid (C3.out (by omega) (by omega))
        have q3 : (a0 == a0) = true := by simp
        go_enter Try.func7, Try.ntmps7
        go_wp2_with fail
        refine (clamp_any _ _ _ _).mono ?_
        rintro e w' ⟨rfl, rfl⟩
        rw [C5.out]
        go_wp2_with fail
        refine (told_law _).mono ?_
        rintro e w' ⟨rfl, rfl⟩
        go_wp2_with fail
        refine (clamp_any _ _ _ _).mono ?_
        rintro e w' ⟨rfl, rfl⟩
        rw [C5.out]
        go_wp2_with fail
        go_ret
        exact ⟨rfl, below_drew _⟩
end Go.Proofs.Ytikmlkfimphjiaa
