/-
  Stick: the contracts of Value, May, Near, Read and of the reference's; that the few examples are told.
-/
import Derived.Test.YtbgliebmdjjmaaaA
namespace Go.Proofs.Ytbgliebmdjjmaaa
set_option linter.unusedVariables false
open Go.ChangeShapes Go.WideShapes Go.ChangeAt Go.RowKit
attribute [local go_sem] run_neg_f64 frombits_run bits_run

def valueF (a : Int) : Nat := if a = 0 then 0 else (Ieee.double.div (floatOfInt .f64 (if a < -127 then -127 else a)) 4638637247447433216).getD 0
theorem value_all : ∀ k : Fin 256, (Ieee.double.div (floatOfInt .f64 (if ((k.val : Int) - 128) < -127 then -127 else ((k.val : Int) - 128))) 4638637247447433216).isSome = true := by decide +kernel
theorem value_some (a : Int) (a0 : -128 ≤ a) (a1 : a ≤ 127) (h : a ≠ 0) : Ieee.double.div (floatOfInt .f64 (if a < -127 then -127 else a)) 4638637247447433216 = some (valueF a) := by
  have := value_all ⟨(a + 128).toNat, by omega⟩
  have e : (((⟨(a + 128).toNat, by omega⟩ : Fin 256).val : Nat) : Int) - 128 = a := by simp; omega
  rw [e] at this
  unfold valueF; rw [if_neg h]
  obtain ⟨r, hr⟩ := Option.isSome_iff_exists.1 this
  rw [hr]; rfl

theorem value_any (a : Int) (a0 : -128 ≤ a) (a1 : a ≤ 127) (w : World) :
    Calls Try.prog 10 #[.int .i8 a] w fun e w' => e = .returned (.float .f64 (valueF a)) ∧ w = w' := by
  by_cases h : a = 0
  · subst h
    go_enter Try.func10, Try.ntmps10
    go_wp2
    go_ret
    exact ⟨rfl, rfl⟩
  · have hv := value_some a a0 a1 h
    have hb : (a == 0) = false := by simp [h]
    by_cases h2 : a < -127
    · rw [if_pos h2] at hv
      have x1 := fun (W : World) => run_float_arith (P := Try.prog) W .quo 23 .f64 _ _ _ hv
      have HV := Lib.hid hv
      clear hv h
      go_enter Try.func10, Try.ntmps10
      go_wp2
      go_ret
      exact ⟨rfl, rfl⟩
    · rw [if_neg h2] at hv
      have x1 := fun (W : World) => run_float_arith (P := Try.prog) W .quo 23 .f64 _ _ _ hv
      have HV := Lib.hid hv
      clear hv h
      go_enter Try.func10, Try.ntmps10
      go_wp2
      go_ret
      exact ⟨rfl, rfl⟩
theorem rvalue_any (a : Int) (a0 : -128 ≤ a) (a1 : a ≤ 127) (w : World) :
    Calls Try.prog 20 #[.int .i8 a] w fun e w' => e = .returned (.float .f64 (valueF a)) ∧ w = w' := by
  by_cases h2 : a < -127
  · obtain rfl : a = -128 := by omega
    have hv := value_some (-128) (by omega) (by omega) (by omega)
    rw [if_pos h2] at hv
    have x1 := fun (W : World) => run_float_arith (P := Try.prog) W .quo 23 .f64 _ _ _ hv
    have HV := Lib.hid hv
    clear hv
    go_enter Try.func20, Try.ntmps20
    go_wp2
    go_ret
    exact ⟨rfl, rfl⟩
  · have hb : (a == -128) = false := by simp; omega
    have hv : Ieee.double.div (floatOfInt .f64 a) 4638637247447433216 = some (valueF a) := by
      by_cases h : a = 0
      · subst h; decide +kernel
      · have := value_some a a0 a1 h
        rwa [if_neg h2] at this
    have x1 := fun (W : World) => run_float_arith (P := Try.prog) W .quo 23 .f64 _ _ _ hv
    have HV := Lib.hid hv
    clear hv h2
    go_enter Try.func20, Try.ntmps20
    go_wp2
    go_ret
    exact ⟨rfl, rfl⟩

def mayB (x y : Int) : Bool := decide (-127 ≤ x) && decide (-127 ≤ y)
theorem may_any (x y b : Int) (w : World) :
    Calls Try.prog 16 #[.agg #[.int .i8 x, .int .i8 y, .int .u8 b]] w fun e w' => e = .returned (.bool (mayB x y)) ∧ Below w.heap.size w w' := by
  unfold mayB
  go_enter Try.func16, Try.ntmps16
  go_wp2
  all_goals go_ret
  all_goals refine ⟨ret_bool ?_, (Below.refl _ _).alloc (Nat.le_refl _) _⟩
  all_goals simp
  all_goals omega
theorem rmay_any (x y b : Int) (x0 : -128 ≤ x) (y0 : -128 ≤ y) (w : World) :
    Calls Try.prog 21 #[.agg #[.int .i8 x, .int .i8 y, .int .u8 b]] w fun e w' => e = .returned (.bool (mayB x y)) ∧ Below w.heap.size w w' := by
  unfold mayB
  by_cases hx : x = -128
  · subst hx
    go_enter Try.func21, Try.ntmps21
    go_wp2
    go_ret
    exact ⟨ret_bool (by simp), (Below.refl _ _).alloc (Nat.le_refl _) _⟩
  · have hx' : (x != -128) = true := by rw [bne_iff_ne]; exact hx
    have H : decide (-127 ≤ x) = true := by simp; omega
    have HX := Lib.hid H
    clear H hx
    by_cases hy : y = -128
    · subst hy
      go_enter Try.func21, Try.ntmps21
      go_wp2
      go_ret
      exact ⟨ret_bool (by simp), (Below.refl _ _).alloc (Nat.le_refl _) _⟩
    · have hy' : (y != -128) = true := by rw [bne_iff_ne]; exact hy
      have H : decide (-127 ≤ y) = true := by simp; omega
      have HY := Lib.hid H
      clear H hy
      go_enter Try.func21, Try.ntmps21
      go_wp2
      go_ret
      exact ⟨ret_bool (by rw [HX.out, HY.out]; rfl), (Below.refl _ _).alloc (Nat.le_refl _) _⟩

def farB (x y : Int) : Bool := decide (8 < x - y) || decide (8 < y - x)
theorem far_any (x y : Int) (x0 : -128 ≤ x) (x1 : x ≤ 127) (y0 : -128 ≤ y) (y1 : y ≤ 127) (w : World) :
    Calls Try.prog 27 #[.int .i8 x, .int .i8 y] w fun e w' => e = .returned (.bool (farB x y)) ∧ w = w' := by
  unfold farB
  go_enter Try.func27, Try.ntmps27
  go_wp2
  all_goals go_ret
  all_goals refine ⟨ret_bool ?_, rfl⟩
  all_goals simp
  all_goals omega

def nearB (x y b x' y' b' : Int) : Bool := (b == b') && !farB x x' && !farB y y'
theorem near_any (x y b x' y' b' : Int) (x0 : -128 ≤ x) (x1 : x ≤ 127) (y0 : -128 ≤ y) (y1 : y ≤ 127) (x0' : -128 ≤ x') (x1' : x' ≤ 127) (y0' : -128 ≤ y') (y1' : y' ≤ 127) (w : World) :
    Calls Try.prog 15 #[.agg #[.int .i8 x, .int .i8 y, .int .u8 b], .agg #[.int .i8 x', .int .i8 y', .int .u8 b']] w fun e w' => e = .returned (.bool (nearB x y b x' y' b')) ∧ Below w.heap.size w w' := by
  have hfin : ∀ w : World, ∀ o1 o2, Below w.heap.size w ((w.alloc o1).alloc o2) := fun w o1 o2 => ((Below.refl _ _).alloc (Nat.le_refl _) _).alloc (by simp) _
  have HFin := Lib.hid hfin
  clear hfin
  unfold nearB
  cases hb : (b == b') with
  | false =>
    go_enter Try.func15, Try.ntmps15
    go_wp2_with fail
    go_ret
    exact ⟨rfl, HFin.out _ _ _⟩
  | true =>
    cases hf : farB x x' with
    | true =>
      have F := Lib.hid hf
      clear hf
      go_enter Try.func15, Try.ntmps15
      go_wp2_with fail
      refine (far_any _ _ x0 x1 x0' x1' _).mono ?_
      rintro e w' ⟨rfl, rfl⟩
      rw [F.out]
      go_wp2_with fail
      go_ret
      exact ⟨rfl, HFin.out _ _ _⟩
    | false =>
      have F := Lib.hid hf
      clear hf
      go_enter Try.func15, Try.ntmps15
      go_wp2_with fail
      refine (far_any _ _ x0 x1 x0' x1' _).mono ?_
      rintro e w' ⟨rfl, rfl⟩
      rw [F.out]
      go_wp2_with fail
      refine (far_any _ _ y0 y1 y0' y1' _).mono ?_
      rintro e w' ⟨rfl, rfl⟩
      go_wp2_with fail
      go_ret
      exact ⟨ret_bool (by simp), HFin.out _ _ _⟩

theorem rnear_any (x y b x' y' b' : Int) (x0 : -128 ≤ x) (x1 : x ≤ 127) (y0 : -128 ≤ y) (y1 : y ≤ 127) (x0' : -128 ≤ x') (x1' : x' ≤ 127) (y0' : -128 ≤ y') (y1' : y' ≤ 127) (w : World) :
    Calls Try.prog 22 #[.agg #[.int .i8 x, .int .i8 y, .int .u8 b], .agg #[.int .i8 x', .int .i8 y', .int .u8 b']] w fun e w' => e = .returned (.bool (nearB x y b x' y' b')) ∧ Below w.heap.size w w' := by
  have hfin : ∀ w : World, ∀ o1 o2 n, Below w.heap.size w (((w.alloc o1).alloc o2).drewN n) := fun w o1 o2 n => (((Below.refl _ _).alloc (Nat.le_refl _) _).alloc (by simp) _).trans ⟨rfl, rfl, rfl, Nat.le_refl _, fun _ _ => rfl⟩
  have HFin := Lib.hid hfin
  clear hfin
  unfold nearB farB
  go_enter Try.func22, Try.ntmps22
  go_wp2_with fail
  go_quiet (fail)
  go_wp2
  all_goals go_ret
  all_goals refine ⟨ret_bool ?_, HFin.out _ _ _ _⟩
  all_goals rw [Bool.eq_iff_iff]
  all_goals simp_all
  all_goals go_light
  all_goals omega
end Go.Proofs.Ytbgliebmdjjmaaa
