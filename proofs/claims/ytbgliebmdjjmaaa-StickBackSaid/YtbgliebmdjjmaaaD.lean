/-
  Stick: the Go text of StickBack, StickRises and StickEdges returns true for every input.
-/
import Derived.Test.YtbgliebmdjjmaaaC
namespace Go.Proofs.Ytbgliebmdjjmaaa
set_option linter.unusedVariables false
open Go.ChangeShapes Go.WideShapes Go.ChangeAt Go.RowKit
attribute [local go_sem] run_neg_f64

def backB (a : Int) : Bool :=
  let w := if a = -128 then -127 else a
  if -16 < w ∧ w < 16 then decide (axisF (valueF a) = 0) && (fo (valueF a) 13817043656772681728 == some .gt) && (fo (valueF a) 4593707648714924884 == some .lt)
  else decide (axisF (valueF a) = w) && (fo (valueF a) 13830554455654793216 == some .gt || fo (valueF a) 13830554455654793216 == some .eq) && (fo (valueF a) 4607182418800017408 == some .lt || fo (valueF a) 4607182418800017408 == some .eq)
theorem back_all : ∀ k : Fin 256, backB ((k.val : Int) - 128) = true := by decide +kernel
theorem back_some (a : Int) (a0 : -128 ≤ a) (a1 : a ≤ 127) : backB a = true := by
  have := back_all ⟨(a + 128).toNat, by omega⟩
  have e : (((⟨(a + 128).toNat, by omega⟩ : Fin 256).val : Nat) : Int) - 128 = a := by simp; omega
  rwa [e] at this
theorem value_lt (a : Int) (a0 : -128 ≤ a) (a1 : a ≤ 127) : valueF a < 18446744073709551616 := by
  have h : ∀ k : Fin 256, valueF ((k.val : Int) - 128) < 18446744073709551616 := by decide +kernel
  have := h ⟨(a + 128).toNat, by omega⟩
  have e : (((⟨(a + 128).toNat, by omega⟩ : Fin 256).val : Nat) : Int) - 128 = a := by simp; omega
  rwa [e] at this
theorem back_m (a0 : Int) (a00 : -128 ≤ a0) (a01 : a0 ≤ 127) (h : a0 = -128) (f1 : axisF (valueF a0) = -127) (f2 : (fo (valueF a0) 13830554455654793216 == some .gt || fo (valueF a0) 13830554455654793216 == some .eq) = true) (f3 : (fo (valueF a0) 4607182418800017408 == some .lt || fo (valueF a0) 4607182418800017408 == some .eq) = true) (w : World) :
    Calls Try.prog 3 #[.int .i8 a0] w fun e w' => e = .returned (.bool true) ∧ Below w.heap.size w w' := by
  have V := Lib.hid (value_lt a0 a00 a01)
  have F1 := Lib.hid f1
  have F2 := Lib.hid f2
  have F3 := Lib.hid f3
  clear f1 f2 f3
  have q1 : (a0 == a0) = true := by simp
  subst h
  go_enter Try.func3, Try.ntmps3
  go_wp2_with fail
  refine (value_any _ (by omega) (by omega) _).mono ?_
  rintro e w' ⟨rfl, rfl⟩
  go_wp2_with fail
  refine (axis_any _ V.out _).mono ?_
  rintro e w' ⟨rfl, rfl⟩
  rw [F1.out]
  have f2 := F2.out
  have f3 := F3.out
  generalize valueF (-128) = v at f2 f3 ⊢
  go_wp2_with fail
  refine (told_law _).mono ?_
  rintro e w' ⟨rfl, hB⟩
  go_wp2_with fail
  go_ret
  first | exact ⟨rfl, hB⟩ | exact ⟨ret_bool f3, hB⟩
theorem back_n (a0 : Int) (a00 : -128 ≤ a0) (a01 : a0 ≤ 127) (h0 : -16 < a0) (h1 : a0 < 16) (f1 : axisF (valueF a0) = 0) (f2 : (fo (valueF a0) 13817043656772681728 == some .gt) = true) (f3 : (fo (valueF a0) 4593707648714924884 == some .lt) = true) (w : World) :
    Calls Try.prog 3 #[.int .i8 a0] w fun e w' => e = .returned (.bool true) ∧ Below w.heap.size w w' := by
  have V := Lib.hid (value_lt a0 a00 a01)
  have F1 := Lib.hid f1
  have F2 := Lib.hid f2
  have F3 := Lib.hid f3
  clear f1 f2 f3
  have q1 : (a0 == a0) = true := by simp
  have hm : (a0 == -128) = false := by simp; omega
  go_enter Try.func3, Try.ntmps3
  go_wp2_with fail
  refine (value_any _ (by omega) (by omega) _).mono ?_
  rintro e w' ⟨rfl, rfl⟩
  go_wp2_with fail
  refine (axis_any _ V.out _).mono ?_
  rintro e w' ⟨rfl, rfl⟩
  rw [F1.out]
  have f2 := F2.out
  have f3 := F3.out
  generalize valueF a0 = v at f2 f3 ⊢
  go_wp2_with fail
  refine (told_law _).mono ?_
  rintro e w' ⟨rfl, hB⟩
  go_wp2_with fail
  go_ret
  first | exact ⟨rfl, hB⟩ | exact ⟨ret_bool f3, hB⟩
theorem back_p (a0 : Int) (a00 : -128 ≤ a0) (a01 : a0 ≤ 127) (h : 16 ≤ a0) (f1 : axisF (valueF a0) = a0) (f2 : (fo (valueF a0) 13830554455654793216 == some .gt || fo (valueF a0) 13830554455654793216 == some .eq) = true) (f3 : (fo (valueF a0) 4607182418800017408 == some .lt || fo (valueF a0) 4607182418800017408 == some .eq) = true) (w : World) :
    Calls Try.prog 3 #[.int .i8 a0] w fun e w' => e = .returned (.bool true) ∧ Below w.heap.size w w' := by
  have V := Lib.hid (value_lt a0 a00 a01)
  have F1 := Lib.hid f1
  have F2 := Lib.hid f2
  have F3 := Lib.hid f3
  clear f1 f2 f3
  have q1 : (a0 == a0) = true := by simp
  have hm : (a0 == -128) = false := by simp; omega
  go_enter Try.func3, Try.ntmps3
  go_wp2_with fail
  refine (value_any _ (by omega) (by omega) _).mono ?_
  rintro e w' ⟨rfl, rfl⟩
  go_wp2_with fail
  refine (axis_any _ V.out _).mono ?_
  rintro e w' ⟨rfl, rfl⟩
  rw [F1.out]
  have f2 := F2.out
  have f3 := F3.out
  generalize valueF a0 = v at f2 f3 ⊢
  go_wp2_with fail
  refine (told_law _).mono ?_
  rintro e w' ⟨rfl, hB⟩
  go_wp2_with fail
  go_ret
  first | exact ⟨rfl, hB⟩ | exact ⟨ret_bool f3, hB⟩
theorem back_q (a0 : Int) (a00 : -128 ≤ a0) (a01 : a0 ≤ 127) (h : a0 ≤ -16) (h2 : -127 ≤ a0) (f1 : axisF (valueF a0) = a0) (f2 : (fo (valueF a0) 13830554455654793216 == some .gt || fo (valueF a0) 13830554455654793216 == some .eq) = true) (f3 : (fo (valueF a0) 4607182418800017408 == some .lt || fo (valueF a0) 4607182418800017408 == some .eq) = true) (w : World) :
    Calls Try.prog 3 #[.int .i8 a0] w fun e w' => e = .returned (.bool true) ∧ Below w.heap.size w w' := by
  have V := Lib.hid (value_lt a0 a00 a01)
  have F1 := Lib.hid f1
  have F2 := Lib.hid f2
  have F3 := Lib.hid f3
  clear f1 f2 f3
  have q1 : (a0 == a0) = true := by simp
  have hm : (a0 == -128) = false := by simp; omega
  go_enter Try.func3, Try.ntmps3
  go_wp2_with fail
  refine (value_any _ (by omega) (by omega) _).mono ?_
  rintro e w' ⟨rfl, rfl⟩
  go_wp2_with fail
  refine (axis_any _ V.out _).mono ?_
  rintro e w' ⟨rfl, rfl⟩
  rw [F1.out]
  have f2 := F2.out
  have f3 := F3.out
  generalize valueF a0 = v at f2 f3 ⊢
  go_wp2_with fail
  refine (told_law _).mono ?_
  rintro e w' ⟨rfl, hB⟩
  go_wp2_with fail
  go_ret
  first | exact ⟨rfl, hB⟩ | exact ⟨ret_bool f3, hB⟩

theorem law_StickBack (a0 : Int) (w0 : (Lit.int .i8 a0).wf = true) (w : World) :
    Calls Try.prog 3 #[.int .i8 a0] w fun e w' => e = .returned (.bool true) ∧ Below w.heap.size w w' := by
  obtain ⟨a00, a01⟩ := i8_bd w0
  have hb := back_some a0 a00 a01
  unfold backB at hb
  simp only at hb
  by_cases h0 : a0 = -128
  · rw [if_pos h0, if_neg (by omega)] at hb
    simp only [Bool.and_eq_true, decide_eq_true_eq] at hb
    exact back_m a0 a00 a01 h0 hb.1.1 hb.1.2 hb.2 w
  rw [if_neg h0] at hb
  by_cases h1 : -16 < a0 ∧ a0 < 16
  · rw [if_pos h1] at hb
    simp only [Bool.and_eq_true, decide_eq_true_eq] at hb
    exact back_n a0 a00 a01 h1.1 h1.2 hb.1.1 hb.1.2 hb.2 w
  · rw [if_neg h1] at hb
    simp only [Bool.and_eq_true, decide_eq_true_eq] at hb
    by_cases h2 : 16 ≤ a0
    · exact back_p a0 a00 a01 h2 hb.1.1 hb.1.2 hb.2 w
    · exact back_q a0 a00 a01 (by omega) (by omega) hb.1.1 hb.1.2 hb.2 w
end Go.Proofs.Ytbgliebmdjjmaaa
