/-
  Curve: the contracts of Ease, of Floor and of Turn.
-/
import Derived.Test.YtmkmlkfnodhejaaC
import Derived.Test.YtmkmlkfnodhejaaK12
namespace Go.Proofs.Ytmkmlkfnodhejaa
set_option linter.unusedVariables false
open Go.ChangeShapes Go.WideShapes Go.ChangeAt Go.RowKit
attribute [local go_sem] run_neg_f64 frombits_run bits_run

structure IsEase (u s d v e : Nat) : Prop where
  h1 : Ieee.double.mul u u = some s
  h2 : Ieee.double.mul 4611686018427387904 u = some d
  h3 : Ieee.double.sub 4613937818241073152 d = some v
  h4 : Ieee.double.mul s v = some e
theorem ease_any (t s d v e : Nat) (h : IsEase (FK.unit t) s d v e) (w : World) :
    Calls Try.prog 20 #[.float .f64 t] w fun e' w' => e' = .returned (.float .f64 e) ∧ w = w' := by
  obtain ⟨h1, h2, h3, h4⟩ := h
  have r1 := fun W => run_float_arith (P := Try.prog) W .mul 22 .f64 _ _ _ h1
  have r2 := fun W => run_float_arith (P := Try.prog) W .mul 22 .f64 _ _ _ h2
  have r3 := fun W => run_float_arith (P := Try.prog) W .sub 22 .f64 _ _ _ h3
  have r4 := fun W => run_float_arith (P := Try.prog) W .mul 22 .f64 _ _ _ h4
  clear h1 h2 h3 h4
  go_enter Try.func20, Try.ntmps20
  go_wp2_with fail
  refine (unit_any _ _).mono ?_
  rintro e' w' ⟨rfl, rfl⟩
  go_wp2_with fail
  go_ret
  exact ⟨rfl, rfl⟩
theorem rease_any (t s d v e : Nat) (h : IsEase (FK.unit t) s d v e) (w : World) :
    Calls Try.prog 21 #[.float .f64 t] w fun e' w' => e' = .returned (.float .f64 e) ∧ w = w' := by
  obtain ⟨h1, h2, h3, h4⟩ := h
  have r1 := fun W => run_float_arith (P := Try.prog) W .mul 22 .f64 _ _ _ h1
  have r2 := fun W => run_float_arith (P := Try.prog) W .mul 22 .f64 _ _ _ h2
  have r3 := fun W => run_float_arith (P := Try.prog) W .sub 22 .f64 _ _ _ h3
  have r4 := fun W => run_float_arith (P := Try.prog) W .mul 22 .f64 _ _ _ h4
  clear h1 h2 h3 h4
  go_enter Try.func21, Try.ntmps21
  go_wp2_with fail
  refine (runit_any _ _).mono ?_
  rintro e' w' ⟨rfl, rfl⟩
  go_wp2_with fail
  go_ret
  exact ⟨rfl, rfl⟩
theorem archfloor_run (x : Nat) (hx : FK.rg x < 9218868437227405312) (w : World) : (callFunc 36 #[.float .f64 x]).run Try.prog w = .ok (.value (.float .f64 (FK.FL x))) w := by
  rw [run_callFunc_extern (f := 36) (fn := Try.f36) (e := Extern.MathFloor.toIntegral "math.archFloor" .down) (by kernel_rfl) (by kernel_rfl) (by kernel_rfl) (by kernel_rfl) (by kernel_rfl)]
  have h : FloatKind.f64.decode x = .number (FK.sg x) (FK.mg (FK.rg x)) (FK.pl (FK.rg x)) := FK.read_fin x hx
  have e : FK.FL x = FloatKind.f64.encode ((Ieee.Datum.number (FK.sg x) (FK.mg (FK.rg x)) (FK.pl (FK.rg x))).integral .down) := by
    unfold FK.FL; rw [FK.read_fin x hx]; rfl
  delta Extern.MathFloor.toIntegral
  conv =>
    lhs
    arg 1
    arg 2
    whnf
  rw [h, e]
  rfl
theorem floor_any (x : Nat) (hx : FK.rg x < 9218868437227405312) (w : World) :
    Calls Try.prog 33 #[.float .f64 x] w fun e w' => e = .returned (.float .f64 (FK.FL x)) ∧ w = w' := by
  have h := fun W => archfloor_run x hx W
  clear hx
  go_enter Try.func33, Try.ntmps33
  go_wp2
  go_ret
  exact ⟨rfl, rfl⟩
def turnY (x : Nat) : Nat := if 4602678819172646912 ≤ x then (if x = 4607182418800017408 then 0 else FK.mkw true (FK.Left x)) else x
def turnF (a : Nat) : Nat := if FK.sr (turnY (FK.R (FK.Fr a))) = 0 then 0 else turnY (FK.R (FK.Fr a))
/-- A turn. -/
def turnG (a : Nat) : Nat := if FK.rg a < 9218868437227405312 then turnF a else 0
theorem sr_half : FK.sr 4602678819172646912 = 4602678819172646912 := by decide
theorem nn_half : FK.nanB 4602678819172646912 = false := by decide
theorem x_le (a : Nat) : FK.R (FK.Fr a) ≤ 4607182418800017408 := FK.R_le_one (Nat.le_of_lt (FK.Fr_lt a))
theorem nn_small {x : Nat} (h : x ≤ 4607182418800017408) : FK.nanB x = false := by
  unfold FK.nanB
  rw [(FK.w_pos (x := x) (by omega)).1]
  simp; omega
theorem turnY_nn {x : Nat} (h : x ≤ 4607182418800017408) : FK.nanB (turnY x) = false := by
  unfold turnY
  split
  · split
    · exact nn_zero
    · exact FK.nn_mkw _ _ (Nat.le_trans (FK.Left_le x) (by decide))
  · exact nn_small h
theorem turn_1 (a : Nat) (ha : a < 18446744073709551616) (hf : FK.rg a < 9218868437227405312) (na : FK.nanB a = false) (gi : (fo (FK.rg a) 9218868437227405311 == some .gt) = false) (x : Nat) (hx : Ieee.double.sub a (FK.FL a) = some x) (h5 : (fo x 4602678819172646912 == some .gt || fo x 4602678819172646912 == some .eq) = false) (h0 : (fo x 0 == some .eq) = true) (w : World) :
    Calls Try.prog 22 #[.float .f64 a] w fun e w' => e = .returned (.float .f64 0) ∧ w = w' := by
  have HA := Lib.hid ha
  have HF := Lib.hid hf
  have r1 := fun W => run_float_arith (P := Try.prog) W .sub 22 .f64 _ _ _ hx
  clear ha hf hx
  go_enter Try.func22, Try.ntmps22
  go_wp2_with fail
  refine (isnan_any _ _).mono ?_
  rintro e w' ⟨rfl, rfl⟩
  rw [fo_nan]
  rw [na]
  go_wp2_with fail
  refine (isinf_any _ HA.out _).mono ?_
  rintro e w' ⟨rfl, rfl⟩
  rw [gi]
  go_wp2_with fail
  refine (floor_any _ HF.out _).mono ?_
  rintro e w' ⟨rfl, rfl⟩
  go_wp2_with fail
  go_ret
  exact ⟨rfl, rfl⟩
theorem turn_2 (a : Nat) (ha : a < 18446744073709551616) (hf : FK.rg a < 9218868437227405312) (na : FK.nanB a = false) (gi : (fo (FK.rg a) 9218868437227405311 == some .gt) = false) (x : Nat) (hx : Ieee.double.sub a (FK.FL a) = some x) (h5 : (fo x 4602678819172646912 == some .gt || fo x 4602678819172646912 == some .eq) = false) (h0 : (fo x 0 == some .eq) = false) (w : World) :
    Calls Try.prog 22 #[.float .f64 a] w fun e w' => e = .returned (.float .f64 x) ∧ w = w' := by
  have HA := Lib.hid ha
  have HF := Lib.hid hf
  have r1 := fun W => run_float_arith (P := Try.prog) W .sub 22 .f64 _ _ _ hx
  clear ha hf hx
  go_enter Try.func22, Try.ntmps22
  go_wp2_with fail
  refine (isnan_any _ _).mono ?_
  rintro e w' ⟨rfl, rfl⟩
  rw [fo_nan]
  rw [na]
  go_wp2_with fail
  refine (isinf_any _ HA.out _).mono ?_
  rintro e w' ⟨rfl, rfl⟩
  rw [gi]
  go_wp2_with fail
  refine (floor_any _ HF.out _).mono ?_
  rintro e w' ⟨rfl, rfl⟩
  go_wp2_with fail
  go_ret
  exact ⟨rfl, rfl⟩
theorem turn_3 (a : Nat) (ha : a < 18446744073709551616) (hf : FK.rg a < 9218868437227405312) (na : FK.nanB a = false) (gi : (fo (FK.rg a) 9218868437227405311 == some .gt) = false) (x y : Nat) (hx : Ieee.double.sub a (FK.FL a) = some x) (h5 : (fo x 4602678819172646912 == some .gt || fo x 4602678819172646912 == some .eq) = true) (hy : Ieee.double.sub x 4607182418800017408 = some y) (h0 : (fo y 0 == some .eq) = true) (w : World) :
    Calls Try.prog 22 #[.float .f64 a] w fun e w' => e = .returned (.float .f64 0) ∧ w = w' := by
  have HA := Lib.hid ha
  have HF := Lib.hid hf
  have r1 := fun W => run_float_arith (P := Try.prog) W .sub 22 .f64 _ _ _ hx
  have r2 := fun W => run_float_arith (P := Try.prog) W .sub 22 .f64 _ _ _ hy
  clear ha hf hx hy
  go_enter Try.func22, Try.ntmps22
  go_wp2_with fail
  refine (isnan_any _ _).mono ?_
  rintro e w' ⟨rfl, rfl⟩
  rw [fo_nan]
  rw [na]
  go_wp2_with fail
  refine (isinf_any _ HA.out _).mono ?_
  rintro e w' ⟨rfl, rfl⟩
  rw [gi]
  go_wp2_with fail
  refine (floor_any _ HF.out _).mono ?_
  rintro e w' ⟨rfl, rfl⟩
  go_wp2_with fail
  go_ret
  exact ⟨rfl, rfl⟩
theorem turn_4 (a : Nat) (ha : a < 18446744073709551616) (hf : FK.rg a < 9218868437227405312) (na : FK.nanB a = false) (gi : (fo (FK.rg a) 9218868437227405311 == some .gt) = false) (x y : Nat) (hx : Ieee.double.sub a (FK.FL a) = some x) (h5 : (fo x 4602678819172646912 == some .gt || fo x 4602678819172646912 == some .eq) = true) (hy : Ieee.double.sub x 4607182418800017408 = some y) (h0 : (fo y 0 == some .eq) = false) (w : World) :
    Calls Try.prog 22 #[.float .f64 a] w fun e w' => e = .returned (.float .f64 y) ∧ w = w' := by
  have HA := Lib.hid ha
  have HF := Lib.hid hf
  have r1 := fun W => run_float_arith (P := Try.prog) W .sub 22 .f64 _ _ _ hx
  have r2 := fun W => run_float_arith (P := Try.prog) W .sub 22 .f64 _ _ _ hy
  clear ha hf hx hy
  go_enter Try.func22, Try.ntmps22
  go_wp2_with fail
  refine (isnan_any _ _).mono ?_
  rintro e w' ⟨rfl, rfl⟩
  rw [fo_nan]
  rw [na]
  go_wp2_with fail
  refine (isinf_any _ HA.out _).mono ?_
  rintro e w' ⟨rfl, rfl⟩
  rw [gi]
  go_wp2_with fail
  refine (floor_any _ HF.out _).mono ?_
  rintro e w' ⟨rfl, rfl⟩
  go_wp2_with fail
  go_ret
  exact ⟨rfl, rfl⟩
theorem rturn_1 (a : Nat) (ha : a < 18446744073709551616) (hf : FK.rg a < 9218868437227405312) (na : FK.nanB a = false) (g1 : (fo a 9218868437227405311 == some .gt) = false) (g2 : (fo a 18442240474082181119 == some .lt) = false) (x : Nat) (hx : Ieee.double.sub a (FK.FL a) = some x) (h5 : (fo x 4602678819172646912 == some .gt || fo x 4602678819172646912 == some .eq) = false) (h0 : (fo x 0 == some .eq) = true) (w : World) :
    Calls Try.prog 23 #[.float .f64 a] w fun e w' => e = .returned (.float .f64 0) ∧ w = w' := by
  have HA := Lib.hid ha
  have HF := Lib.hid hf
  have r1 := fun W => run_float_arith (P := Try.prog) W .sub 22 .f64 _ _ _ hx
  clear ha hf hx
  go_enter Try.func23, Try.ntmps23
  go_wp2_with fail
  refine (rnan_any _ _).mono ?_
  rintro e w' ⟨rfl, rfl⟩
  rw [fo_nan]
  rw [na]
  go_wp2_with fail
  refine (floor_any _ HF.out _).mono ?_
  rintro e w' ⟨rfl, rfl⟩
  go_wp2_with fail
  go_ret
  exact ⟨rfl, rfl⟩
theorem rturn_2 (a : Nat) (ha : a < 18446744073709551616) (hf : FK.rg a < 9218868437227405312) (na : FK.nanB a = false) (g1 : (fo a 9218868437227405311 == some .gt) = false) (g2 : (fo a 18442240474082181119 == some .lt) = false) (x : Nat) (hx : Ieee.double.sub a (FK.FL a) = some x) (h5 : (fo x 4602678819172646912 == some .gt || fo x 4602678819172646912 == some .eq) = false) (h0 : (fo x 0 == some .eq) = false) (w : World) :
    Calls Try.prog 23 #[.float .f64 a] w fun e w' => e = .returned (.float .f64 x) ∧ w = w' := by
  have HA := Lib.hid ha
  have HF := Lib.hid hf
  have r1 := fun W => run_float_arith (P := Try.prog) W .sub 22 .f64 _ _ _ hx
  clear ha hf hx
  go_enter Try.func23, Try.ntmps23
  go_wp2_with fail
  refine (rnan_any _ _).mono ?_
  rintro e w' ⟨rfl, rfl⟩
  rw [fo_nan]
  rw [na]
  go_wp2_with fail
  refine (floor_any _ HF.out _).mono ?_
  rintro e w' ⟨rfl, rfl⟩
  go_wp2_with fail
  go_ret
  exact ⟨rfl, rfl⟩
theorem rturn_3 (a : Nat) (ha : a < 18446744073709551616) (hf : FK.rg a < 9218868437227405312) (na : FK.nanB a = false) (g1 : (fo a 9218868437227405311 == some .gt) = false) (g2 : (fo a 18442240474082181119 == some .lt) = false) (x y : Nat) (hx : Ieee.double.sub a (FK.FL a) = some x) (h5 : (fo x 4602678819172646912 == some .gt || fo x 4602678819172646912 == some .eq) = true) (hy : Ieee.double.sub x 4607182418800017408 = some y) (h0 : (fo y 0 == some .eq) = true) (w : World) :
    Calls Try.prog 23 #[.float .f64 a] w fun e w' => e = .returned (.float .f64 0) ∧ w = w' := by
  have HA := Lib.hid ha
  have HF := Lib.hid hf
  have r1 := fun W => run_float_arith (P := Try.prog) W .sub 22 .f64 _ _ _ hx
  have r2 := fun W => run_float_arith (P := Try.prog) W .sub 22 .f64 _ _ _ hy
  clear ha hf hx hy
  go_enter Try.func23, Try.ntmps23
  go_wp2_with fail
  refine (rnan_any _ _).mono ?_
  rintro e w' ⟨rfl, rfl⟩
  rw [fo_nan]
  rw [na]
  go_wp2_with fail
  refine (floor_any _ HF.out _).mono ?_
  rintro e w' ⟨rfl, rfl⟩
  go_wp2_with fail
  go_ret
  exact ⟨rfl, rfl⟩
theorem rturn_4 (a : Nat) (ha : a < 18446744073709551616) (hf : FK.rg a < 9218868437227405312) (na : FK.nanB a = false) (g1 : (fo a 9218868437227405311 == some .gt) = false) (g2 : (fo a 18442240474082181119 == some .lt) = false) (x y : Nat) (hx : Ieee.double.sub a (FK.FL a) = some x) (h5 : (fo x 4602678819172646912 == some .gt || fo x 4602678819172646912 == some .eq) = true) (hy : Ieee.double.sub x 4607182418800017408 = some y) (h0 : (fo y 0 == some .eq) = false) (w : World) :
    Calls Try.prog 23 #[.float .f64 a] w fun e w' => e = .returned (.float .f64 y) ∧ w = w' := by
  have HA := Lib.hid ha
  have HF := Lib.hid hf
  have r1 := fun W => run_float_arith (P := Try.prog) W .sub 22 .f64 _ _ _ hx
  have r2 := fun W => run_float_arith (P := Try.prog) W .sub 22 .f64 _ _ _ hy
  clear ha hf hx hy
  go_enter Try.func23, Try.ntmps23
  go_wp2_with fail
  refine (rnan_any _ _).mono ?_
  rintro e w' ⟨rfl, rfl⟩
  rw [fo_nan]
  rw [na]
  go_wp2_with fail
  refine (floor_any _ HF.out _).mono ?_
  rintro e w' ⟨rfl, rfl⟩
  go_wp2_with fail
  go_ret
  exact ⟨rfl, rfl⟩
theorem turn_5 (a : Nat) (na : FK.nanB a = true) (w : World) :
    Calls Try.prog 22 #[.float .f64 a] w fun e w' => e = .returned (.float .f64 0) ∧ w = w' := by
  go_enter Try.func22, Try.ntmps22
  go_wp2_with fail
  refine (isnan_any _ _).mono ?_
  rintro e w' ⟨rfl, rfl⟩
  rw [fo_nan]
  rw [na]
  go_wp2_with fail
  go_ret
  exact ⟨rfl, rfl⟩
theorem turn_6 (a : Nat) (ha : a < 18446744073709551616) (na : FK.nanB a = false) (gi : (fo (FK.rg a) 9218868437227405311 == some .gt) = true) (w : World) :
    Calls Try.prog 22 #[.float .f64 a] w fun e w' => e = .returned (.float .f64 0) ∧ w = w' := by
  have HA := Lib.hid ha
  clear ha
  go_enter Try.func22, Try.ntmps22
  go_wp2_with fail
  refine (isnan_any _ _).mono ?_
  rintro e w' ⟨rfl, rfl⟩
  rw [fo_nan]
  rw [na]
  go_wp2_with fail
  refine (isinf_any _ HA.out _).mono ?_
  rintro e w' ⟨rfl, rfl⟩
  rw [gi]
  go_wp2_with fail
  go_ret
  exact ⟨rfl, rfl⟩
theorem rturn_5 (a : Nat) (na : FK.nanB a = true) (w : World) :
    Calls Try.prog 23 #[.float .f64 a] w fun e w' => e = .returned (.float .f64 0) ∧ w = w' := by
  go_enter Try.func23, Try.ntmps23
  go_wp2_with fail
  refine (rnan_any _ _).mono ?_
  rintro e w' ⟨rfl, rfl⟩
  rw [fo_nan]
  rw [na]
  go_wp2_with fail
  go_ret
  exact ⟨rfl, rfl⟩
theorem rturn_6 (a : Nat) (na : FK.nanB a = false) (g1 : (fo a 9218868437227405311 == some .gt) = true) (w : World) :
    Calls Try.prog 23 #[.float .f64 a] w fun e w' => e = .returned (.float .f64 0) ∧ w = w' := by
  go_enter Try.func23, Try.ntmps23
  go_wp2_with fail
  refine (rnan_any _ _).mono ?_
  rintro e w' ⟨rfl, rfl⟩
  rw [fo_nan]
  rw [na]
  go_wp2_with fail
  go_ret
  exact ⟨rfl, rfl⟩
theorem rturn_7 (a : Nat) (na : FK.nanB a = false) (g1 : (fo a 9218868437227405311 == some .gt) = false) (g2 : (fo a 18442240474082181119 == some .lt) = true) (w : World) :
    Calls Try.prog 23 #[.float .f64 a] w fun e w' => e = .returned (.float .f64 0) ∧ w = w' := by
  go_enter Try.func23, Try.ntmps23
  go_wp2_with fail
  refine (rnan_any _ _).mono ?_
  rintro e w' ⟨rfl, rfl⟩
  rw [fo_nan]
  rw [na]
  go_wp2_with fail
  go_ret
  exact ⟨rfl, rfl⟩
theorem sr_max : FK.sr 9218868437227405311 = 9218868437227405311 := by decide
theorem nn_max : FK.nanB 9218868437227405311 = false := by decide
theorem sr_mmax : FK.sr 18442240474082181119 = -9218868437227405311 := by decide
theorem nn_mmax : FK.nanB 18442240474082181119 = false := by decide
theorem sr_rg {x : Nat} (h : FK.rg x ≤ 9218868437227405312) : FK.sr (FK.rg x) = FK.rg x ∧ FK.nanB (FK.rg x) = false := by
  have hrr : FK.rg (FK.rg x) = FK.rg x := by unfold FK.rg; omega
  refine ⟨?_, by unfold FK.nanB; rw [hrr]; simp; omega⟩
  rw [sr_def, hrr]
  have : FK.sg (FK.rg x) = false := by
    have := FK.sg_mkw false (FK.rg x) (by omega)
    rwa [FK.mkf] at this
  rw [this]; rfl
theorem turn_any (a : Nat) (ha : a < 18446744073709551616) (w : World) :
    Calls Try.prog 22 #[.float .f64 a] w fun e w' => e = .returned (.float .f64 (turnG a)) ∧ w = w' := by
  unfold turnG
  have hrg := sr_def a
  by_cases hf : FK.rg a < 9218868437227405312
  · rw [if_pos hf]
    have na : FK.nanB a = false := by unfold FK.nanB; simp; omega
    have gi : (fo (FK.rg a) 9218868437227405311 == some .gt) = false := by
      obtain ⟨e1, e2⟩ := sr_rg (x := a) (by omega)
      rw [fo_gt, e1, e2, sr_max, nn_max]; simp; omega
    have hx := FK.sub_floor a hf
    have hxl := x_le a
    unfold turnF
    generalize FK.R (FK.Fr a) = x at *
    have nx := nn_small hxl
    have sx := FK.sr_pos (x := x) (by omega)
    have h5 := fo_ge x 4602678819172646912
    rw [nx, nn_half, sr_half, sx] at h5
    simp only [Bool.not_false, Bool.true_and] at h5
    by_cases hh : 4602678819172646912 ≤ x
    · rw [decide_eq_true (by omega)] at h5
      have hy := FK.sub_one hxl
      have ey : turnY x = (if x = 4607182418800017408 then 0 else FK.mkw true (FK.Left x)) := by unfold turnY; rw [if_pos hh]
      rw [← ey] at hy
      have ny := turnY_nn hxl
      generalize turnY x = y at *
      have h0 := fo_eq y 0
      rw [ny, nn_zero, sr_zero] at h0
      simp only [Bool.not_false, Bool.true_and] at h0
      by_cases hz : FK.sr y = 0
      · rw [decide_eq_true hz] at h0
        rw [if_pos hz]
        exact turn_3 a ha hf na gi x y hx h5 hy h0 w
      · rw [decide_eq_false hz] at h0
        rw [if_neg hz]
        exact turn_4 a ha hf na gi x y hx h5 hy h0 w
    · rw [decide_eq_false (by omega)] at h5
      have ey : turnY x = x := by unfold turnY; rw [if_neg hh]
      rw [ey]
      have h0 := fo_eq x 0
      rw [nx, nn_zero, sr_zero] at h0
      simp only [Bool.not_false, Bool.true_and] at h0
      by_cases hz : FK.sr x = 0
      · rw [decide_eq_true hz] at h0
        rw [if_pos hz]
        exact turn_1 a ha hf na gi x hx h5 h0 w
      · rw [decide_eq_false hz] at h0
        rw [if_neg hz]
        exact turn_2 a ha hf na gi x hx h5 h0 w
  · rw [if_neg hf]
    cases na : FK.nanB a with
    | true => exact turn_5 a na w
    | false =>
      have hi : FK.rg a = 9218868437227405312 := by unfold FK.nanB at na; simp at na; omega
      refine turn_6 a ha na ?_ w
      obtain ⟨e1, e2⟩ := sr_rg (x := a) (by omega)
      rw [fo_gt, e1, e2, sr_max, nn_max, hi]; rfl
theorem rturn_any (a : Nat) (ha : a < 18446744073709551616) (w : World) :
    Calls Try.prog 23 #[.float .f64 a] w fun e w' => e = .returned (.float .f64 (turnG a)) ∧ w = w' := by
  unfold turnG
  have hrg := sr_def a
  by_cases hf : FK.rg a < 9218868437227405312
  · rw [if_pos hf]
    have na : FK.nanB a = false := by unfold FK.nanB; simp; omega
    have g1 : (fo a 9218868437227405311 == some .gt) = false := by
      rw [fo_gt, na, sr_max, nn_max]
      cases hs : FK.sg a <;> rw [hs] at hrg <;> simp at hrg ⊢ <;> omega
    have g2 : (fo a 18442240474082181119 == some .lt) = false := by
      rw [fo_lt, na, sr_mmax, nn_mmax]
      cases hs : FK.sg a <;> rw [hs] at hrg <;> simp at hrg ⊢ <;> omega
    have hx := FK.sub_floor a hf
    have hxl := x_le a
    unfold turnF
    generalize FK.R (FK.Fr a) = x at *
    have nx := nn_small hxl
    have sx := FK.sr_pos (x := x) (by omega)
    have h5 := fo_ge x 4602678819172646912
    rw [nx, nn_half, sr_half, sx] at h5
    simp only [Bool.not_false, Bool.true_and] at h5
    by_cases hh : 4602678819172646912 ≤ x
    · rw [decide_eq_true (by omega)] at h5
      have hy := FK.sub_one hxl
      have ey : turnY x = (if x = 4607182418800017408 then 0 else FK.mkw true (FK.Left x)) := by unfold turnY; rw [if_pos hh]
      rw [← ey] at hy
      have ny := turnY_nn hxl
      generalize turnY x = y at *
      have h0 := fo_eq y 0
      rw [ny, nn_zero, sr_zero] at h0
      simp only [Bool.not_false, Bool.true_and] at h0
      by_cases hz : FK.sr y = 0
      · rw [decide_eq_true hz] at h0
        rw [if_pos hz]
        exact rturn_3 a ha hf na g1 g2 x y hx h5 hy h0 w
      · rw [decide_eq_false hz] at h0
        rw [if_neg hz]
        exact rturn_4 a ha hf na g1 g2 x y hx h5 hy h0 w
    · rw [decide_eq_false (by omega)] at h5
      have ey : turnY x = x := by unfold turnY; rw [if_neg hh]
      rw [ey]
      have h0 := fo_eq x 0
      rw [nx, nn_zero, sr_zero] at h0
      simp only [Bool.not_false, Bool.true_and] at h0
      by_cases hz : FK.sr x = 0
      · rw [decide_eq_true hz] at h0
        rw [if_pos hz]
        exact rturn_1 a ha hf na g1 g2 x hx h5 h0 w
      · rw [decide_eq_false hz] at h0
        rw [if_neg hz]
        exact rturn_2 a ha hf na g1 g2 x hx h5 h0 w
  · rw [if_neg hf]
    cases na : FK.nanB a with
    | true => exact rturn_5 a na w
    | false =>
      have hi : FK.rg a = 9218868437227405312 := by unfold FK.nanB at na; simp at na; omega
      cases hs : FK.sg a with
      | false =>
        rw [hs, hi] at hrg
        refine rturn_6 a na ?_ w
        rw [fo_gt, na, sr_max, nn_max, hrg]; rfl
      | true =>
        rw [hs, hi] at hrg
        refine rturn_7 a na ?_ ?_ w
        · rw [fo_gt, na, sr_max, nn_max, hrg]; rfl
        · rw [fo_lt, na, sr_mmax, nn_mmax, hrg]; rfl
end Go.Proofs.Ytmkmlkfnodhejaa
