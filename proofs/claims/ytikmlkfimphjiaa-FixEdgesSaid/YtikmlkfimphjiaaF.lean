/-
  Fixed point: the Go text of FixOrder and FixBack returns true for every input.
-/
import Derived.Test.YtikmlkfimphjiaaD
import Derived.Test.YtikmlkfimphjiaaK6
namespace Go.Proofs.Ytikmlkfimphjiaa
set_option linter.unusedVariables false
open Go.ChangeShapes Go.WideShapes Go.ChangeAt Go.RowKit
open FK (D Wr)

attribute [local go_sem] run_neg_f64

theorem cl_mono {x y : Int} (h : x ≤ y) : cl x ≤ cl y := by
  unfold cl; split <;> split <;> (try split) <;> (try split)
  all_goals omega

def RootOf (a r : Int) : Prop := (a ≤ 0 → r = 0) ∧ (0 < a → IsRoot (a * 65536) r)
theorem root_any (a : Int) (w : World) (a1 : a ≤ 2147483647) :
    Calls Try.prog 20 #[.int .i32 a] w fun e w' => (∃ r : Int, e = .returned (.int .i32 r) ∧ RootOf a r) ∧ w = w' := by
  by_cases h : 0 < a
  · exact (root_pos a w h a1).mono fun e w' ⟨⟨r, h1, h2⟩, h3⟩ => ⟨⟨r, h1, fun h => by omega, fun _ => h2⟩, h3⟩
  · exact (root_zero a w (by omega)).mono fun e w' ⟨h1, h3⟩ => ⟨⟨0, h1, fun _ => rfl, fun h => by omega⟩, h3⟩
theorem root_mono {a b r s : Int} (h : a ≤ b) (hr : RootOf a r) (hs : RootOf b s) : r ≤ s := by
  by_cases ha : 0 < a
  · obtain ⟨r0, r1, r2⟩ := hr.2 ha
    obtain ⟨s0, s1, s2⟩ := hs.2 (by omega)
    apply Classical.byContradiction
    intro hc
    have := sq_le (x := s + 1) (y := r) (by omega) (by omega)
    omega
  · have := hr.1 (by omega)
    by_cases hb : 0 < b
    · have := (hs.2 hb).1; omega
    · have := hs.1 (by omega); omega

theorem Wr_i32 {a : Int} (a0 : -2147483648 ≤ a) (a1 : a ≤ 2147483647) (p : Int) (h1 : -1000 ≤ p) (h2 : p ≤ 900) : Wr a p := ⟨by omega, by omega, h2⟩
theorem float_D (a : Int) (a0 : -2147483648 ≤ a) (a1 : a ≤ 2147483647) (w : World) :
    Calls Try.prog 26 #[.int .i32 a] w fun e w' => e = .returned (.float .f64 (D a (-16))) ∧ w = w' :=
  float_any a _ w (by
    rw [FK.ofInt_D]
    exact FK.divK (Wr_i32 a0 a1 0 (by decide) (by decide)))

theorem order_floats (a b : Int) (a00 : -2147483648 ≤ a) (a01 : a ≤ 2147483647) (a10 : -2147483648 ≤ b) (a11 : b ≤ 2147483647) : (fo (D a (-16)) (D b (-16)) == some .lt) = decide (a < b) := by
  have h : fo (D a (-16)) (D b (-16)) = some (compare a b) := FK.order_D (Wr_i32 a00 a01 _ (by decide) (by decide)) (Wr_i32 a10 a11 _ (by decide) (by decide))
  rw [h]
  by_cases hh : a < b
  · rw [FK.cmp_lt hh]; simp [hh]
  · by_cases h2 : a = b
    · rw [FK.cmp_eq h2]; simp [hh]
    · rw [FK.cmp_gt (by omega)]; simp [hh]
set_option maxHeartbeats 1000000 in
theorem order_gt (a0 a1 a2 : Int) (a00 : -2147483648 ≤ a0) (a01 : a0 ≤ 2147483647) (a10 : -2147483648 ≤ a1) (a11 : a1 ≤ 2147483647) (a20 : -2147483648 ≤ a2) (a21 : a2 ≤ 2147483647) (h : a1 < a0) (w : World) :
    Calls Try.prog 10 #[.int .i32 a0, .int .i32 a1, .int .i32 a2] w fun e w' => e = .returned (.bool true) ∧ Below w.heap.size w w' := by
  have c1 : cl (a1 + a2) ≤ cl (a0 + a2) := cl_mono (by omega)
  have c2 : cl (a2 - a0) ≤ cl (a2 - a1) := cl_mono (by omega)
  have f1 := order_floats a1 a0 (by omega) (by omega) (by omega) (by omega)
  rw [show decide (a1 < a0) = true by simp; omega] at f1
  go_enter Try.func10, Try.ntmps10
  go_wp2_with fail
  refine (told_law _).mono ?_
  rintro e w' ⟨rfl, rfl⟩
  go_wp2_with fail
  refine (add_any _ _ _ (by omega) (by omega) (by omega) (by omega)).mono ?_
  rintro e w' ⟨rfl, rfl⟩
  go_wp2_with fail
  refine (add_any _ _ _ (by omega) (by omega) (by omega) (by omega)).mono ?_
  rintro e w' ⟨rfl, rfl⟩
  go_wp2_with fail
  refine (sub_any _ _ _ (by omega) (by omega) (by omega) (by omega)).mono ?_
  rintro e w' ⟨rfl, rfl⟩
  go_wp2_with fail
  refine (sub_any _ _ _ (by omega) (by omega) (by omega) (by omega)).mono ?_
  rintro e w' ⟨rfl, rfl⟩
  go_wp2_with fail
  refine (float_D _ (by omega) (by omega) _).mono ?_
  rintro e w' ⟨rfl, rfl⟩
  go_wp2_with fail
  refine (float_D _ (by omega) (by omega) _).mono ?_
  rintro e w' ⟨rfl, rfl⟩
  go_wp2_with fail
  refine (root_any _ _ (by omega)).mono ?_
  rintro e w' ⟨⟨r, rfl, hr⟩, rfl⟩
  have Hr := Lib.hid hr
  clear hr
  go_wp2_with fail
  refine (root_any _ _ (by omega)).mono ?_
  rintro e w' ⟨⟨s, rfl, hs⟩, rfl⟩
  have c3 : r ≤ s := root_mono (a := a1) (b := a0) (by omega) Hr.out hs
  clear hs
  go_wp2_with fail
  go_ret
  exact ⟨rfl, below_drew _⟩
set_option maxHeartbeats 1000000 in
theorem order_lt (a0 a1 a2 : Int) (a00 : -2147483648 ≤ a0) (a01 : a0 ≤ 2147483647) (a10 : -2147483648 ≤ a1) (a11 : a1 ≤ 2147483647) (a20 : -2147483648 ≤ a2) (a21 : a2 ≤ 2147483647) (h : a0 < a1) (w : World) :
    Calls Try.prog 10 #[.int .i32 a0, .int .i32 a1, .int .i32 a2] w fun e w' => e = .returned (.bool true) ∧ Below w.heap.size w w' := by
  have c1 : cl (a0 + a2) ≤ cl (a1 + a2) := cl_mono (by omega)
  have c2 : cl (a2 - a1) ≤ cl (a2 - a0) := cl_mono (by omega)
  have f1 := order_floats a0 a1 (by omega) (by omega) (by omega) (by omega)
  rw [show decide (a0 < a1) = true by simp; omega] at f1
  go_enter Try.func10, Try.ntmps10
  go_wp2_with fail
  refine (told_law _).mono ?_
  rintro e w' ⟨rfl, rfl⟩
  go_wp2_with fail
  refine (add_any _ _ _ (by omega) (by omega) (by omega) (by omega)).mono ?_
  rintro e w' ⟨rfl, rfl⟩
  go_wp2_with fail
  refine (add_any _ _ _ (by omega) (by omega) (by omega) (by omega)).mono ?_
  rintro e w' ⟨rfl, rfl⟩
  go_wp2_with fail
  refine (sub_any _ _ _ (by omega) (by omega) (by omega) (by omega)).mono ?_
  rintro e w' ⟨rfl, rfl⟩
  go_wp2_with fail
  refine (sub_any _ _ _ (by omega) (by omega) (by omega) (by omega)).mono ?_
  rintro e w' ⟨rfl, rfl⟩
  go_wp2_with fail
  refine (float_D _ (by omega) (by omega) _).mono ?_
  rintro e w' ⟨rfl, rfl⟩
  go_wp2_with fail
  refine (float_D _ (by omega) (by omega) _).mono ?_
  rintro e w' ⟨rfl, rfl⟩
  go_wp2_with fail
  refine (root_any _ _ (by omega)).mono ?_
  rintro e w' ⟨⟨r, rfl, hr⟩, rfl⟩
  have Hr := Lib.hid hr
  clear hr
  go_wp2_with fail
  refine (root_any _ _ (by omega)).mono ?_
  rintro e w' ⟨⟨s, rfl, hs⟩, rfl⟩
  have c3 : r ≤ s := root_mono (a := a0) (b := a1) (by omega) Hr.out hs
  clear hs
  go_wp2_with fail
  go_ret
  exact ⟨rfl, below_drew _⟩
set_option maxHeartbeats 1000000 in
theorem order_eq (a0 a1 a2 : Int) (a00 : -2147483648 ≤ a0) (a01 : a0 ≤ 2147483647) (a10 : -2147483648 ≤ a1) (a11 : a1 ≤ 2147483647) (a20 : -2147483648 ≤ a2) (a21 : a2 ≤ 2147483647) (h : a0 = a1) (w : World) :
    Calls Try.prog 10 #[.int .i32 a0, .int .i32 a1, .int .i32 a2] w fun e w' => e = .returned (.bool true) ∧ Below w.heap.size w w' := by
  subst h
  have c1 : cl (a0 + a2) ≤ cl (a0 + a2) := cl_mono (by omega)
  have c2 : cl (a2 - a0) ≤ cl (a2 - a0) := cl_mono (by omega)
  have f1 := order_floats a0 a0 (by omega) (by omega) (by omega) (by omega)
  rw [show decide (a0 < a0) = false by simp] at f1
  go_enter Try.func10, Try.ntmps10
  go_wp2_with fail
  refine (told_law _).mono ?_
  rintro e w' ⟨rfl, rfl⟩
  go_wp2_with fail
  refine (add_any _ _ _ (by omega) (by omega) (by omega) (by omega)).mono ?_
  rintro e w' ⟨rfl, rfl⟩
  go_wp2_with fail
  refine (add_any _ _ _ (by omega) (by omega) (by omega) (by omega)).mono ?_
  rintro e w' ⟨rfl, rfl⟩
  go_wp2_with fail
  refine (sub_any _ _ _ (by omega) (by omega) (by omega) (by omega)).mono ?_
  rintro e w' ⟨rfl, rfl⟩
  go_wp2_with fail
  refine (sub_any _ _ _ (by omega) (by omega) (by omega) (by omega)).mono ?_
  rintro e w' ⟨rfl, rfl⟩
  go_wp2_with fail
  refine (float_D _ (by omega) (by omega) _).mono ?_
  rintro e w' ⟨rfl, rfl⟩
  go_wp2_with fail
  refine (float_D _ (by omega) (by omega) _).mono ?_
  rintro e w' ⟨rfl, rfl⟩
  go_wp2_with fail
  refine (root_any _ _ (by omega)).mono ?_
  rintro e w' ⟨⟨r, rfl, hr⟩, rfl⟩
  have Hr := Lib.hid hr
  clear hr
  go_wp2_with fail
  refine (root_any _ _ (by omega)).mono ?_
  rintro e w' ⟨⟨s, rfl, hs⟩, rfl⟩
  have c3 : r ≤ s := root_mono (a := a0) (b := a0) (by omega) Hr.out hs
  clear hs
  go_wp2_with fail
  go_ret
  exact ⟨rfl, below_drew _⟩

theorem law_FixOrder (a0 a1 a2 : Int) (w0 : (Lit.int .i32 a0).wf = true) (w1 : (Lit.int .i32 a1).wf = true) (w2 : (Lit.int .i32 a2).wf = true) (w : World) :
    Calls Try.prog 10 #[.int .i32 a0, .int .i32 a1, .int .i32 a2] w fun e w' => e = .returned (.bool true) ∧ Below w.heap.size w w' := by
  obtain ⟨a00, a01⟩ := i32_bd w0
  obtain ⟨a10, a11⟩ := i32_bd w1
  obtain ⟨a20, a21⟩ := i32_bd w2
  by_cases h1 : a1 < a0
  · exact order_gt a0 a1 a2 a00 a01 a10 a11 a20 a21 h1 w
  · by_cases h2 : a0 < a1
    · exact order_lt a0 a1 a2 a00 a01 a10 a11 a20 a21 h2 w
    · exact order_eq a0 a1 a2 a00 a01 a10 a11 a20 a21 (by omega) w
end Go.Proofs.Ytikmlkfimphjiaa
