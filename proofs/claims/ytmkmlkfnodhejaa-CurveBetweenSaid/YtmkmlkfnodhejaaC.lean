/-
  Curve: the contracts of Mix and of the reference's Unit and Mix.
-/
import Derived.Test.YtmkmlkfnodhejaaB
namespace Go.Proofs.Ytmkmlkfnodhejaa
set_option linter.unusedVariables false
open Go.ChangeShapes Go.WideShapes Go.ChangeAt Go.RowKit
attribute [local go_sem] run_neg_f64 frombits_run bits_run

def ONE : Nat := 4607182418800017408
def mixF (a b t : Nat) : Nat :=
  if FK.unit t = 0 then a else if FK.unit t = 4607182418800017408 then b else if FK.nanB a || FK.nanB b then 9221120237041090561 else if FK.sr a = FK.sr b then a else
  match Ieee.double.sub b a with
  | some d => match Ieee.double.mul d (FK.unit t) with
    | some m => match Ieee.double.add a m with
      | some x => x
      | none => b
    | none => 0
  | none => 0
theorem z_eq : (fo 0 0 == some .eq) = true := by decide +kernel
theorem o_z : (fo 4607182418800017408 0 == some .eq) = false := by decide +kernel
theorem o_o : (fo 4607182418800017408 4607182418800017408 == some .eq) = true := by decide +kernel
/-- A sum that has none. -/
theorem run_none (x y : Nat) (T : TypeId) (h : Ieee.double.add x y = none) (w : World) : ∃ N, FK.nanB N = true ∧ (binOp .add T (.float .f64 x) (.float .f64 y)).run Try.prog w = .ok (.float .f64 N) w.drew := by
  have h' : FloatKind.f64.format.add x y = none := h
  refine ⟨(Question.nanBits .f64 x y).cut (w.tape w.drawn (.nanBits .f64 x y)), ?_, ?_⟩
  · refine decide_eq_true ?_
    generalize w.tape w.drawn _ = t
    show 9218868437227405312 < (t % 2 * 2 ^ 63 + 9218868437227405312 + 1 + t / 2 % (2 ^ 52 - 1)) % 9223372036854775808
    have hy : t / 2 % (2 ^ 52 - 1) < 2 ^ 52 - 1 := Nat.mod_lt _ (by decide)
    generalize t / 2 % (2 ^ 52 - 1) = y at hy
    generalize t % 2 = x
    omega
  · simp [binOp, Op.floatArith, h', Question.forced]
theorem below_drew (w : World) : Below w.heap.size w w.drew := ⟨rfl, rfl, rfl, Nat.le_refl _, fun _ _ => rfl⟩
theorem runit_1 (t : Nat) (h1 : (fo t 4607182418800017408 == some .gt || fo t 4607182418800017408 == some .eq) = true) (w : World) :
    Calls Try.prog 17 #[.float .f64 t] w fun e w' => e = .returned (.float .f64 4607182418800017408) ∧ w = w' := by
  go_enter Try.func17, Try.ntmps17
  go_wp2_with fail
  go_ret
  exact ⟨rfl, rfl⟩
theorem runit_2 (t : Nat) (h1 : (fo t 4607182418800017408 == some .gt || fo t 4607182418800017408 == some .eq) = false) (h0 : (fo t 0 == some .gt) = true) (w : World) :
    Calls Try.prog 17 #[.float .f64 t] w fun e w' => e = .returned (.float .f64 t) ∧ w = w' := by
  go_enter Try.func17, Try.ntmps17
  go_wp2_with fail
  go_ret
  exact ⟨rfl, rfl⟩
theorem runit_3 (t : Nat) (h1 : (fo t 4607182418800017408 == some .gt || fo t 4607182418800017408 == some .eq) = false) (h0 : (fo t 0 == some .gt) = false) (w : World) :
    Calls Try.prog 17 #[.float .f64 t] w fun e w' => e = .returned (.float .f64 0) ∧ w = w' := by
  go_enter Try.func17, Try.ntmps17
  go_wp2_with fail
  go_ret
  exact ⟨rfl, rfl⟩
theorem runit_any (t : Nat) (w : World) :
    Calls Try.prog 17 #[.float .f64 t] w fun e w' => e = .returned (.float .f64 (FK.unit t)) ∧ w = w' := by
  have l0 := fo_gt t 0
  rw [nn_zero, sr_zero] at l0
  have l1 := fo_ge t 4607182418800017408
  rw [nn_one, sr_one] at l1
  unfold FK.unit
  cases nt : FK.nanB t with
  | true =>
    rw [nt] at l0 l1
    exact runit_3 t (by simpa using l1) (by simpa using l0) w
  | false =>
    rw [nt] at l0 l1
    simp only [Bool.not_false, Bool.true_and] at l0 l1
    rw [← l1]
    cases h1 : (fo t 4607182418800017408 == some .gt || fo t 4607182418800017408 == some .eq) with
    | true =>
      rw [h1] at l1
      have : ¬ FK.sr t ≤ 0 := by have := of_decide_eq_true l1.symm; omega
      rw [if_neg (by simp; omega)]
      exact runit_1 t h1 w
    | false =>
      cases h0 : (fo t 0 == some .gt) with
      | true =>
        rw [h0] at l0
        have := of_decide_eq_true l0.symm
        rw [if_neg (by simp; omega)]
        exact runit_2 t h1 h0 w
      | false =>
        rw [h0] at l0
        have := of_decide_eq_false l0.symm
        rw [if_pos (by simp; omega)]
        exact runit_3 t h1 h0 w
theorem mix_1 (a b t : Nat) (hu : FK.unit t = 0) (w : World) :
    Calls Try.prog 18 #[.float .f64 a, .float .f64 b, .float .f64 t] w fun e w' => e = .returned (.float .f64 a) ∧ w = w' := by
  have HZ := z_eq
  go_enter Try.func18, Try.ntmps18
  go_wp2_with fail
  refine (unit_any _ _).mono ?_
  rintro e w' ⟨rfl, rfl⟩
  rw [hu]
  go_wp2_with fail
  go_ret
  exact ⟨rfl, rfl⟩
theorem mix_2 (a b t : Nat) (hu : FK.unit t = 4607182418800017408) (w : World) :
    Calls Try.prog 18 #[.float .f64 a, .float .f64 b, .float .f64 t] w fun e w' => e = .returned (.float .f64 b) ∧ w = w' := by
  have HZ := o_z
  have HO := o_o
  go_enter Try.func18, Try.ntmps18
  go_wp2_with fail
  refine (unit_any _ _).mono ?_
  rintro e w' ⟨rfl, rfl⟩
  rw [hu]
  go_wp2_with fail
  go_ret
  exact ⟨rfl, rfl⟩
theorem mix_3 (a b t : Nat) (u : Nat) (hu : FK.unit t = u) (u0 : (fo u 0 == some .eq) = false) (u1 : (fo u 4607182418800017408 == some .eq) = false) (na : FK.nanB a = true) (w : World) :
    Calls Try.prog 18 #[.float .f64 a, .float .f64 b, .float .f64 t] w fun e w' => e = .returned (.float .f64 9221120237041090561) ∧ w = w' := by
  have HU := Lib.hid hu
  clear hu
  go_enter Try.func18, Try.ntmps18
  go_wp2_with fail
  refine (unit_any _ _).mono ?_
  rintro e w' ⟨rfl, rfl⟩
  rw [HU.out]
  go_wp2_with fail
  refine (isnan_any _ _).mono ?_
  rintro e w' ⟨rfl, rfl⟩
  rw [fo_nan]
  rw [na]
  go_wp2_with fail
  refine (nan_val _).mono ?_
  rintro e w' ⟨rfl, rfl⟩
  go_wp2_with fail
  go_ret
  exact ⟨rfl, rfl⟩
theorem mix_4 (a b t : Nat) (u : Nat) (hu : FK.unit t = u) (u0 : (fo u 0 == some .eq) = false) (u1 : (fo u 4607182418800017408 == some .eq) = false) (na : FK.nanB a = false) (nb : FK.nanB b = true) (w : World) :
    Calls Try.prog 18 #[.float .f64 a, .float .f64 b, .float .f64 t] w fun e w' => e = .returned (.float .f64 9221120237041090561) ∧ w = w' := by
  have HU := Lib.hid hu
  clear hu
  go_enter Try.func18, Try.ntmps18
  go_wp2_with fail
  refine (unit_any _ _).mono ?_
  rintro e w' ⟨rfl, rfl⟩
  rw [HU.out]
  go_wp2_with fail
  refine (isnan_any _ _).mono ?_
  rintro e w' ⟨rfl, rfl⟩
  rw [fo_nan]
  rw [na]
  go_wp2_with fail
  refine (isnan_any _ _).mono ?_
  rintro e w' ⟨rfl, rfl⟩
  rw [fo_nan]
  rw [nb]
  go_wp2_with fail
  refine (nan_val _).mono ?_
  rintro e w' ⟨rfl, rfl⟩
  go_wp2_with fail
  go_ret
  exact ⟨rfl, rfl⟩
theorem mix_5 (a b t : Nat) (u : Nat) (hu : FK.unit t = u) (u0 : (fo u 0 == some .eq) = false) (u1 : (fo u 4607182418800017408 == some .eq) = false) (na : FK.nanB a = false) (nb : FK.nanB b = false) (he : (fo a b == some .eq) = true) (w : World) :
    Calls Try.prog 18 #[.float .f64 a, .float .f64 b, .float .f64 t] w fun e w' => e = .returned (.float .f64 a) ∧ w = w' := by
  have HU := Lib.hid hu
  clear hu
  go_enter Try.func18, Try.ntmps18
  go_wp2_with fail
  refine (unit_any _ _).mono ?_
  rintro e w' ⟨rfl, rfl⟩
  rw [HU.out]
  go_wp2_with fail
  refine (isnan_any _ _).mono ?_
  rintro e w' ⟨rfl, rfl⟩
  rw [fo_nan]
  rw [na]
  go_wp2_with fail
  refine (isnan_any _ _).mono ?_
  rintro e w' ⟨rfl, rfl⟩
  rw [fo_nan]
  rw [nb]
  go_wp2_with fail
  go_ret
  exact ⟨rfl, rfl⟩
theorem mix_6 (a b t : Nat) (u : Nat) (hu : FK.unit t = u) (u0 : (fo u 0 == some .eq) = false) (u1 : (fo u 4607182418800017408 == some .eq) = false) (na : FK.nanB a = false) (nb : FK.nanB b = false) (he : (fo a b == some .eq) = false) (d m x : Nat) (hd : Ieee.double.sub b a = some d) (hm : Ieee.double.mul d u = some m) (hx : Ieee.double.add a m = some x) (nx : FK.nanB x = false) (w : World) :
    Calls Try.prog 18 #[.float .f64 a, .float .f64 b, .float .f64 t] w fun e w' => e = .returned (.float .f64 x) ∧ w = w' := by
  have HU := Lib.hid hu
  clear hu
  have r1 := fun W => run_float_arith (P := Try.prog) W .sub 22 .f64 _ _ _ hd
  have r2 := fun W => run_float_arith (P := Try.prog) W .mul 22 .f64 _ _ _ hm
  have r3 := fun W => run_float_arith (P := Try.prog) W .add 22 .f64 _ _ _ hx
  clear hd hm hx
  go_enter Try.func18, Try.ntmps18
  go_wp2_with fail
  refine (unit_any _ _).mono ?_
  rintro e w' ⟨rfl, rfl⟩
  rw [HU.out]
  go_wp2_with fail
  refine (isnan_any _ _).mono ?_
  rintro e w' ⟨rfl, rfl⟩
  rw [fo_nan]
  rw [na]
  go_wp2_with fail
  refine (isnan_any _ _).mono ?_
  rintro e w' ⟨rfl, rfl⟩
  rw [fo_nan]
  rw [nb]
  go_wp2_with fail
  refine (isnan_any _ _).mono ?_
  rintro e w' ⟨rfl, rfl⟩
  rw [fo_nan]
  rw [nx]
  go_wp2_with fail
  go_ret
  exact ⟨rfl, rfl⟩
theorem mix_7 (a b t : Nat) (u : Nat) (hu : FK.unit t = u) (u0 : (fo u 0 == some .eq) = false) (u1 : (fo u 4607182418800017408 == some .eq) = false) (na : FK.nanB a = false) (nb : FK.nanB b = false) (he : (fo a b == some .eq) = false) (d m : Nat) (hd : Ieee.double.sub b a = some d) (hm : Ieee.double.mul d u = some m) (hx : Ieee.double.add a m = none) (w : World) :
    Calls Try.prog 18 #[.float .f64 a, .float .f64 b, .float .f64 t] w fun e w' => e = .returned (.float .f64 b) ∧ Below w.heap.size w w' := by
  have HU := Lib.hid hu
  clear hu
  have r1 := fun W => run_float_arith (P := Try.prog) W .sub 22 .f64 _ _ _ hd
  have r2 := fun W => run_float_arith (P := Try.prog) W .mul 22 .f64 _ _ _ hm
  obtain ⟨x, nx, r3⟩ := run_none a m 22 hx w
  clear hd hm hx
  go_enter Try.func18, Try.ntmps18
  go_wp2_with fail
  refine (unit_any _ _).mono ?_
  rintro e w' ⟨rfl, rfl⟩
  rw [HU.out]
  go_wp2_with fail
  refine (isnan_any _ _).mono ?_
  rintro e w' ⟨rfl, rfl⟩
  rw [fo_nan]
  rw [na]
  go_wp2_with fail
  refine (isnan_any _ _).mono ?_
  rintro e w' ⟨rfl, rfl⟩
  rw [fo_nan]
  rw [nb]
  go_wp2_with fail
  refine (isnan_any _ _).mono ?_
  rintro e w' ⟨rfl, rfl⟩
  rw [fo_nan]
  rw [nx]
  go_wp2_with fail
  go_ret
  exact ⟨rfl, below_drew _⟩
theorem mix_any (a b t : Nat) (ht : t < 18446744073709551616) (w : World) :
    Calls Try.prog 18 #[.float .f64 a, .float .f64 b, .float .f64 t] w fun e w' => e = .returned (.float .f64 (mixF a b t)) ∧ Below w.heap.size w w' := by
  have eqw : ∀ {v : Value}, (Calls Try.prog 18 #[.float .f64 a, .float .f64 b, .float .f64 t] w fun e w' => e = .returned v ∧ w = w') → Calls Try.prog 18 #[.float .f64 a, .float .f64 b, .float .f64 t] w fun e w' => e = .returned v ∧ Below w.heap.size w w' :=
    fun h => h.mono fun _ _ ⟨e1, e2⟩ => ⟨e1, e2 ▸ Below.refl _ _⟩
  unfold mixF
  by_cases h0 : FK.unit t = 0
  · rw [if_pos h0]; exact eqw (mix_1 a b t h0 w)
  · rw [if_neg h0]
    by_cases h1 : FK.unit t = 4607182418800017408
    · rw [if_pos h1]; exact eqw (mix_2 a b t h1 w)
    · rw [if_neg h1]
      have hu := FK.unit_le t ht
      obtain ⟨s0, s1⟩ := FK.w_pos (x := FK.unit t) (by omega)
      have sp := FK.sr_pos (x := FK.unit t) (by omega)
      have u0 : (fo (FK.unit t) 0 == some .eq) = false := by rw [fo_eq, sr_zero, sp]; simp; intro _ _; omega
      have u1 : (fo (FK.unit t) 4607182418800017408 == some .eq) = false := by rw [fo_eq, sr_one, sp]; simp; intro _ _; omega
      cases na : FK.nanB a with
      | true => exact eqw (mix_3 a b t _ rfl u0 u1 na w)
      | false =>
        cases nb : FK.nanB b with
        | true => exact eqw (mix_4 a b t _ rfl u0 u1 na nb w)
        | false =>
          have he := fo_eq a b
          rw [na, nb] at he
          simp only [Bool.not_false, Bool.true_and] at he
          by_cases hs : FK.sr a = FK.sr b
          · rw [decide_eq_true hs] at he
            rw [if_neg (by simp), if_pos hs]
            exact eqw (mix_5 a b t _ rfl u0 u1 na nb he w)
          · rw [decide_eq_false hs] at he
            rw [if_neg (by simp), if_neg hs]
            obtain ⟨d, hd, nd⟩ := FK.sub_nn nb na (fun h => hs h.symm)
            obtain ⟨m, hm, nm⟩ := FK.mul_nn nd (u := FK.unit t) (by omega) (by omega)
            rw [hd]
            simp only
            rw [hm]
            simp only
            rcases FK.add_nn na nm with hx | ⟨x, hx, nx⟩
            · rw [hx]
              exact mix_7 a b t _ rfl u0 u1 na nb he d m hd hm hx w
            · rw [hx]
              exact eqw (mix_6 a b t _ rfl u0 u1 na nb he d m x hd hm hx nx w)
theorem rmix_1 (a b t : Nat) (hu : FK.unit t = 0) (w : World) :
    Calls Try.prog 19 #[.float .f64 a, .float .f64 b, .float .f64 t] w fun e w' => e = .returned (.float .f64 a) ∧ w = w' := by
  have HZ := z_eq
  go_enter Try.func19, Try.ntmps19
  go_wp2_with fail
  refine (runit_any _ _).mono ?_
  rintro e w' ⟨rfl, rfl⟩
  rw [hu]
  go_wp2_with fail
  go_ret
  exact ⟨rfl, rfl⟩
theorem rmix_2 (a b t : Nat) (hu : FK.unit t = 4607182418800017408) (w : World) :
    Calls Try.prog 19 #[.float .f64 a, .float .f64 b, .float .f64 t] w fun e w' => e = .returned (.float .f64 b) ∧ w = w' := by
  have HZ := o_z
  have HO := o_o
  go_enter Try.func19, Try.ntmps19
  go_wp2_with fail
  refine (runit_any _ _).mono ?_
  rintro e w' ⟨rfl, rfl⟩
  rw [hu]
  go_wp2_with fail
  go_ret
  exact ⟨rfl, rfl⟩
theorem rmix_3 (a b t : Nat) (u : Nat) (hu : FK.unit t = u) (u0 : (fo u 0 == some .eq) = false) (u1 : (fo u 4607182418800017408 == some .eq) = false) (na : FK.nanB a = true) (w : World) :
    Calls Try.prog 19 #[.float .f64 a, .float .f64 b, .float .f64 t] w fun e w' => e = .returned (.float .f64 9221120237041090561) ∧ w = w' := by
  have HU := Lib.hid hu
  clear hu
  go_enter Try.func19, Try.ntmps19
  go_wp2_with fail
  refine (runit_any _ _).mono ?_
  rintro e w' ⟨rfl, rfl⟩
  rw [HU.out]
  go_wp2_with fail
  refine (rnan_any _ _).mono ?_
  rintro e w' ⟨rfl, rfl⟩
  rw [fo_nan]
  rw [na]
  go_wp2_with fail
  refine (nan_val _).mono ?_
  rintro e w' ⟨rfl, rfl⟩
  go_wp2_with fail
  go_ret
  exact ⟨rfl, rfl⟩
theorem rmix_4 (a b t : Nat) (u : Nat) (hu : FK.unit t = u) (u0 : (fo u 0 == some .eq) = false) (u1 : (fo u 4607182418800017408 == some .eq) = false) (na : FK.nanB a = false) (nb : FK.nanB b = true) (w : World) :
    Calls Try.prog 19 #[.float .f64 a, .float .f64 b, .float .f64 t] w fun e w' => e = .returned (.float .f64 9221120237041090561) ∧ w = w' := by
  have HU := Lib.hid hu
  clear hu
  go_enter Try.func19, Try.ntmps19
  go_wp2_with fail
  refine (runit_any _ _).mono ?_
  rintro e w' ⟨rfl, rfl⟩
  rw [HU.out]
  go_wp2_with fail
  refine (rnan_any _ _).mono ?_
  rintro e w' ⟨rfl, rfl⟩
  rw [fo_nan]
  rw [na]
  go_wp2_with fail
  refine (rnan_any _ _).mono ?_
  rintro e w' ⟨rfl, rfl⟩
  rw [fo_nan]
  rw [nb]
  go_wp2_with fail
  refine (nan_val _).mono ?_
  rintro e w' ⟨rfl, rfl⟩
  go_wp2_with fail
  go_ret
  exact ⟨rfl, rfl⟩
theorem rmix_5 (a b t : Nat) (u : Nat) (hu : FK.unit t = u) (u0 : (fo u 0 == some .eq) = false) (u1 : (fo u 4607182418800017408 == some .eq) = false) (na : FK.nanB a = false) (nb : FK.nanB b = false) (he : (fo a b == some .eq) = true) (w : World) :
    Calls Try.prog 19 #[.float .f64 a, .float .f64 b, .float .f64 t] w fun e w' => e = .returned (.float .f64 a) ∧ w = w' := by
  have HU := Lib.hid hu
  clear hu
  go_enter Try.func19, Try.ntmps19
  go_wp2_with fail
  refine (runit_any _ _).mono ?_
  rintro e w' ⟨rfl, rfl⟩
  rw [HU.out]
  go_wp2_with fail
  refine (rnan_any _ _).mono ?_
  rintro e w' ⟨rfl, rfl⟩
  rw [fo_nan]
  rw [na]
  go_wp2_with fail
  refine (rnan_any _ _).mono ?_
  rintro e w' ⟨rfl, rfl⟩
  rw [fo_nan]
  rw [nb]
  go_wp2_with fail
  go_ret
  exact ⟨rfl, rfl⟩
theorem rmix_6 (a b t : Nat) (u : Nat) (hu : FK.unit t = u) (u0 : (fo u 0 == some .eq) = false) (u1 : (fo u 4607182418800017408 == some .eq) = false) (na : FK.nanB a = false) (nb : FK.nanB b = false) (he : (fo a b == some .eq) = false) (d m x : Nat) (hd : Ieee.double.sub b a = some d) (hm : Ieee.double.mul d u = some m) (hx : Ieee.double.add a m = some x) (nx : FK.nanB x = false) (w : World) :
    Calls Try.prog 19 #[.float .f64 a, .float .f64 b, .float .f64 t] w fun e w' => e = .returned (.float .f64 x) ∧ w = w' := by
  have HU := Lib.hid hu
  clear hu
  have r1 := fun W => run_float_arith (P := Try.prog) W .sub 22 .f64 _ _ _ hd
  have r2 := fun W => run_float_arith (P := Try.prog) W .mul 22 .f64 _ _ _ hm
  have r3 := fun W => run_float_arith (P := Try.prog) W .add 22 .f64 _ _ _ hx
  clear hd hm hx
  go_enter Try.func19, Try.ntmps19
  go_wp2_with fail
  refine (runit_any _ _).mono ?_
  rintro e w' ⟨rfl, rfl⟩
  rw [HU.out]
  go_wp2_with fail
  refine (rnan_any _ _).mono ?_
  rintro e w' ⟨rfl, rfl⟩
  rw [fo_nan]
  rw [na]
  go_wp2_with fail
  refine (rnan_any _ _).mono ?_
  rintro e w' ⟨rfl, rfl⟩
  rw [fo_nan]
  rw [nb]
  go_wp2_with fail
  refine (rnan_any _ _).mono ?_
  rintro e w' ⟨rfl, rfl⟩
  rw [fo_nan]
  rw [nx]
  go_wp2_with fail
  go_ret
  exact ⟨rfl, rfl⟩
theorem rmix_7 (a b t : Nat) (u : Nat) (hu : FK.unit t = u) (u0 : (fo u 0 == some .eq) = false) (u1 : (fo u 4607182418800017408 == some .eq) = false) (na : FK.nanB a = false) (nb : FK.nanB b = false) (he : (fo a b == some .eq) = false) (d m : Nat) (hd : Ieee.double.sub b a = some d) (hm : Ieee.double.mul d u = some m) (hx : Ieee.double.add a m = none) (w : World) :
    Calls Try.prog 19 #[.float .f64 a, .float .f64 b, .float .f64 t] w fun e w' => e = .returned (.float .f64 b) ∧ Below w.heap.size w w' := by
  have HU := Lib.hid hu
  clear hu
  have r1 := fun W => run_float_arith (P := Try.prog) W .sub 22 .f64 _ _ _ hd
  have r2 := fun W => run_float_arith (P := Try.prog) W .mul 22 .f64 _ _ _ hm
  obtain ⟨x, nx, r3⟩ := run_none a m 22 hx w
  clear hd hm hx
  go_enter Try.func19, Try.ntmps19
  go_wp2_with fail
  refine (runit_any _ _).mono ?_
  rintro e w' ⟨rfl, rfl⟩
  rw [HU.out]
  go_wp2_with fail
  refine (rnan_any _ _).mono ?_
  rintro e w' ⟨rfl, rfl⟩
  rw [fo_nan]
  rw [na]
  go_wp2_with fail
  refine (rnan_any _ _).mono ?_
  rintro e w' ⟨rfl, rfl⟩
  rw [fo_nan]
  rw [nb]
  go_wp2_with fail
  refine (rnan_any _ _).mono ?_
  rintro e w' ⟨rfl, rfl⟩
  rw [fo_nan]
  rw [nx]
  go_wp2_with fail
  go_ret
  exact ⟨rfl, below_drew _⟩
theorem rmix_any (a b t : Nat) (ht : t < 18446744073709551616) (w : World) :
    Calls Try.prog 19 #[.float .f64 a, .float .f64 b, .float .f64 t] w fun e w' => e = .returned (.float .f64 (mixF a b t)) ∧ Below w.heap.size w w' := by
  have eqw : ∀ {v : Value}, (Calls Try.prog 19 #[.float .f64 a, .float .f64 b, .float .f64 t] w fun e w' => e = .returned v ∧ w = w') → Calls Try.prog 19 #[.float .f64 a, .float .f64 b, .float .f64 t] w fun e w' => e = .returned v ∧ Below w.heap.size w w' :=
    fun h => h.mono fun _ _ ⟨e1, e2⟩ => ⟨e1, e2 ▸ Below.refl _ _⟩
  unfold mixF
  by_cases h0 : FK.unit t = 0
  · rw [if_pos h0]; exact eqw (rmix_1 a b t h0 w)
  · rw [if_neg h0]
    by_cases h1 : FK.unit t = 4607182418800017408
    · rw [if_pos h1]; exact eqw (rmix_2 a b t h1 w)
    · rw [if_neg h1]
      have hu := FK.unit_le t ht
      obtain ⟨s0, s1⟩ := FK.w_pos (x := FK.unit t) (by omega)
      have sp := FK.sr_pos (x := FK.unit t) (by omega)
      have u0 : (fo (FK.unit t) 0 == some .eq) = false := by rw [fo_eq, sr_zero, sp]; simp; intro _ _; omega
      have u1 : (fo (FK.unit t) 4607182418800017408 == some .eq) = false := by rw [fo_eq, sr_one, sp]; simp; intro _ _; omega
      cases na : FK.nanB a with
      | true => exact eqw (rmix_3 a b t _ rfl u0 u1 na w)
      | false =>
        cases nb : FK.nanB b with
        | true => exact eqw (rmix_4 a b t _ rfl u0 u1 na nb w)
        | false =>
          have he := fo_eq a b
          rw [na, nb] at he
          simp only [Bool.not_false, Bool.true_and] at he
          by_cases hs : FK.sr a = FK.sr b
          · rw [decide_eq_true hs] at he
            rw [if_neg (by simp), if_pos hs]
            exact eqw (rmix_5 a b t _ rfl u0 u1 na nb he w)
          · rw [decide_eq_false hs] at he
            rw [if_neg (by simp), if_neg hs]
            obtain ⟨d, hd, nd⟩ := FK.sub_nn nb na (fun h => hs h.symm)
            obtain ⟨m, hm, nm⟩ := FK.mul_nn nd (u := FK.unit t) (by omega) (by omega)
            rw [hd]
            simp only
            rw [hm]
            simp only
            rcases FK.add_nn na nm with hx | ⟨x, hx, nx⟩
            · rw [hx]
              exact rmix_7 a b t _ rfl u0 u1 na nb he d m hd hm hx w
            · rw [hx]
              exact eqw (rmix_6 a b t _ rfl u0 u1 na nb he d m x hd hm hx nx w)
end Go.Proofs.Ytmkmlkfnodhejaa
