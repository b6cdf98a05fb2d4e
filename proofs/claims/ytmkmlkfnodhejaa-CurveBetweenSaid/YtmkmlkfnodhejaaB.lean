/-
  Curve: the contracts of Same, Less, Unit, Mix and of the reference's: what each call returns.
-/
import Derived.Test.YtmkmlkfnodhejaaA
import Derived.Test.YtmkmlkfnodhejaaK11
namespace Go.Proofs.Ytmkmlkfnodhejaa
set_option linter.unusedVariables false
open Go.ChangeShapes Go.WideShapes Go.ChangeAt Go.RowKit
attribute [local go_sem] run_neg_f64 frombits_run bits_run

theorem fo_nan (x : Nat) : (fo x x != some .eq) = FK.nanB x := FK.nan_iff x
theorem fo_lt (x y : Nat) : (fo x y == some .lt) = (!FK.nanB x && !FK.nanB y && decide (FK.sr x < FK.sr y)) := FK.lt_any x y
theorem fo_gt (x y : Nat) : (fo x y == some .gt) = (!FK.nanB x && !FK.nanB y && decide (FK.sr y < FK.sr x)) := FK.gt_any x y
theorem fo_eq (x y : Nat) : (fo x y == some .eq) = (!FK.nanB x && !FK.nanB y && decide (FK.sr x = FK.sr y)) := FK.eq_any x y
theorem fo_le (x y : Nat) : (fo x y == some .lt || fo x y == some .eq) = (!FK.nanB x && !FK.nanB y && decide (FK.sr x ≤ FK.sr y)) := FK.le_any x y
theorem fo_ge (x y : Nat) : (fo x y == some .gt || fo x y == some .eq) = (!FK.nanB x && !FK.nanB y && decide (FK.sr y ≤ FK.sr x)) := FK.ge_any x y
theorem sr_zero : FK.sr 0 = 0 := by decide
theorem sr_one : FK.sr 4607182418800017408 = 4607182418800017408 := by decide
theorem nn_zero : FK.nanB 0 = false := by decide
theorem nn_one : FK.nanB 4607182418800017408 = false := by decide

theorem sr_cases (x : Nat) : (FK.sg x = true ∧ FK.sr x = -(FK.rg x : Int)) ∨ (FK.sg x = false ∧ FK.sr x = FK.rg x) := by
  unfold FK.sr
  cases FK.sg x
  · right; exact ⟨rfl, by simp⟩
  · left; exact ⟨rfl, by simp⟩
theorem rank_cases (x : Nat) : (FK.nanB x = true ∧ FK.rank x = 9223372036854775807) ∨ (FK.nanB x = false ∧ FK.rg x ≤ 9218868437227405312 ∧ ((FK.sg x = true ∧ FK.rank x = -(FK.rg x : Int) - 1) ∨ (FK.sg x = false ∧ FK.rank x = FK.rg x))) := by
  unfold FK.rank
  cases h : FK.nanB x
  · right
    refine ⟨rfl, ?_, ?_⟩
    · unfold FK.nanB at h; simp at h; omega
    · cases FK.sg x
      · right; exact ⟨rfl, by simp⟩
      · left; exact ⟨rfl, by simp⟩
  · left; exact ⟨rfl, by simp⟩

theorem rank_nn {x : Nat} (h : FK.nanB x = false) : FK.rank x = if FK.sg x = true then -(FK.rg x : Int) - 1 else FK.rg x := by
  unfold FK.rank; rw [h]; rfl
theorem sr_def (x : Nat) : FK.sr x = if FK.sg x = true then -(FK.rg x : Int) else FK.rg x := by unfold FK.sr; rfl
def sameB (a b : Nat) : Bool := decide (FK.rank a = FK.rank b)
def lessB (a b : Nat) : Bool := decide (FK.rank a < FK.rank b)

theorem same_1 (a b : Nat) (na : FK.nanB a = true) (w : World) :
    Calls Try.prog 12 #[.float .f64 a, .float .f64 b] w fun e w' => e = .returned (.bool (FK.nanB b)) ∧ w = w' := by
  go_enter Try.func12, Try.ntmps12
  go_wp2_with fail
  refine (isnan_any _ _).mono ?_
  rintro e w' ⟨rfl, rfl⟩
  rw [fo_nan]
  rw [na]
  go_wp2_with fail
  refine (isnan_any _ _).mono ?_
  rintro e w' ⟨rfl, rfl⟩
  rw [fo_nan]
  rw [na]
  go_wp2_with fail
  refine (isnan_any _ _).mono ?_
  rintro e w' ⟨rfl, rfl⟩
  rw [fo_nan]
  go_wp2_with fail
  go_ret
  exact ⟨rfl, rfl⟩
theorem same_2 (a b : Nat) (na : FK.nanB a = false) (nb : FK.nanB b = true) (w : World) :
    Calls Try.prog 12 #[.float .f64 a, .float .f64 b] w fun e w' => e = .returned (.bool false) ∧ w = w' := by
  go_enter Try.func12, Try.ntmps12
  go_wp2_with fail
  refine (isnan_any _ _).mono ?_
  rintro e w' ⟨rfl, rfl⟩
  rw [fo_nan]
  rw [na]
  go_wp2_with fail
  refine (isnan_any _ _).mono ?_
  rintro e w' ⟨rfl, rfl⟩
  rw [fo_nan]
  rw [nb]
  go_wp2_with fail
  refine (isnan_any _ _).mono ?_
  rintro e w' ⟨rfl, rfl⟩
  rw [fo_nan]
  rw [na]
  go_wp2_with fail
  go_ret
  exact ⟨rfl, rfl⟩
theorem same_3 (a b : Nat) (na : FK.nanB a = false) (nb : FK.nanB b = false) (he : (fo a b == some .eq) = false) (w : World) :
    Calls Try.prog 12 #[.float .f64 a, .float .f64 b] w fun e w' => e = .returned (.bool false) ∧ w = w' := by
  go_enter Try.func12, Try.ntmps12
  go_wp2_with fail
  refine (isnan_any _ _).mono ?_
  rintro e w' ⟨rfl, rfl⟩
  rw [fo_nan]
  rw [na]
  go_wp2_with fail
  refine (isnan_any _ _).mono ?_
  rintro e w' ⟨rfl, rfl⟩
  rw [fo_nan]
  rw [nb]
  go_wp2_with fail
  go_ret
  exact ⟨rfl, rfl⟩
theorem same_4 (a b : Nat) (ha : a < 18446744073709551616) (hb : b < 18446744073709551616) (na : FK.nanB a = false) (nb : FK.nanB b = false) (he : (fo a b == some .eq) = true) (w : World) :
    Calls Try.prog 12 #[.float .f64 a, .float .f64 b] w fun e w' => e = .returned (.bool (FK.sg a == FK.sg b)) ∧ w = w' := by
  have HA := Lib.hid ha
  have HB := Lib.hid hb
  clear ha hb
  go_enter Try.func12, Try.ntmps12
  go_wp2_with fail
  refine (isnan_any _ _).mono ?_
  rintro e w' ⟨rfl, rfl⟩
  rw [fo_nan]
  rw [na]
  go_wp2_with fail
  refine (isnan_any _ _).mono ?_
  rintro e w' ⟨rfl, rfl⟩
  rw [fo_nan]
  rw [nb]
  go_wp2_with fail
  refine (signbit_any _ HA.out _).mono ?_
  rintro e w' ⟨rfl, rfl⟩
  go_wp2_with fail
  refine (signbit_any _ HB.out _).mono ?_
  rintro e w' ⟨rfl, rfl⟩
  go_wp2_with fail
  go_ret
  exact ⟨rfl, rfl⟩
theorem same_any (a b : Nat) (ha : a < 18446744073709551616) (hb : b < 18446744073709551616) (w : World) :
    Calls Try.prog 12 #[.float .f64 a, .float .f64 b] w fun e w' => e = .returned (.bool (sameB a b)) ∧ w = w' := by
  unfold sameB
  have ra := rank_cases a
  have rb := rank_cases b
  have sa := sr_cases a
  have sb := sr_cases b
  cases na : FK.nanB a with
  | true =>
    have e : decide (FK.rank a = FK.rank b) = FK.nanB b := by
      cases nb : FK.nanB b <;> rw [na] at ra <;> rw [nb] at rb <;> simp at ra rb ⊢ <;> omega
    rw [e]; exact same_1 a b na w
  | false =>
    cases nb : FK.nanB b with
    | true =>
      have e : decide (FK.rank a = FK.rank b) = false := by
        rw [na] at ra; rw [nb] at rb; simp at ra rb ⊢; omega
      rw [e]; exact same_2 a b na nb w
    | false =>
      rw [na] at ra
      rw [nb] at rb
      simp only [Bool.false_eq_true, false_and, false_or, true_and] at ra rb
      cases he : (fo a b == some .eq) with
      | false =>
        have h2 := fo_eq a b
        rw [he, na, nb] at h2
        have h3 : FK.sr a ≠ FK.sr b := by simpa using h2.symm
        have e1 := rank_nn na
        have e2 := rank_nn nb
        have e3 := sr_def a
        have e4 := sr_def b
        have e : decide (FK.rank a = FK.rank b) = false := decide_eq_false (fun h4 => h3 (by
          cases hsa : FK.sg a <;> cases hsb : FK.sg b <;> rw [hsa] at e1 e3 <;> rw [hsb] at e2 e4 <;> simp only [Bool.false_eq_true, if_false, if_true] at e1 e2 e3 e4 <;> omega))
        rw [e]; exact same_3 a b na nb he w
      | true =>
        have h2 := fo_eq a b
        rw [he, na, nb] at h2
        have h3 : FK.sr a = FK.sr b := by simpa using h2.symm
        have e : decide (FK.rank a = FK.rank b) = (FK.sg a == FK.sg b) := by
          have e1 := rank_nn na
          have e2 := rank_nn nb
          have e3 := sr_def a
          have e4 := sr_def b
          cases hsa : FK.sg a <;> cases hsb : FK.sg b <;> rw [hsa] at e1 e3 <;> rw [hsb] at e2 e4 <;> simp only [Bool.false_eq_true, if_false, if_true] at e1 e2 e3 e4
          · exact decide_eq_true (by omega)
          · exact decide_eq_false (by omega)
          · exact decide_eq_false (by omega)
          · exact decide_eq_true (by omega)
        rw [e]; exact same_4 a b ha hb na nb he w
theorem less_1 (a b : Nat) (na : FK.nanB a = true) (w : World) :
    Calls Try.prog 14 #[.float .f64 a, .float .f64 b] w fun e w' => e = .returned (.bool false) ∧ w = w' := by
  go_enter Try.func14, Try.ntmps14
  go_wp2_with fail
  refine (isnan_any _ _).mono ?_
  rintro e w' ⟨rfl, rfl⟩
  rw [fo_nan]
  rw [na]
  go_wp2_with fail
  go_ret
  exact ⟨rfl, rfl⟩
theorem less_2 (a b : Nat) (na : FK.nanB a = false) (nb : FK.nanB b = true) (w : World) :
    Calls Try.prog 14 #[.float .f64 a, .float .f64 b] w fun e w' => e = .returned (.bool true) ∧ w = w' := by
  go_enter Try.func14, Try.ntmps14
  go_wp2_with fail
  refine (isnan_any _ _).mono ?_
  rintro e w' ⟨rfl, rfl⟩
  rw [fo_nan]
  rw [na]
  go_wp2_with fail
  refine (isnan_any _ _).mono ?_
  rintro e w' ⟨rfl, rfl⟩
  rw [fo_nan]
  rw [nb]
  go_wp2_with fail
  go_ret
  exact ⟨rfl, rfl⟩
theorem less_3 (a b : Nat) (na : FK.nanB a = false) (nb : FK.nanB b = false) (he : (fo a b == some .eq) = false) (w : World) :
    Calls Try.prog 14 #[.float .f64 a, .float .f64 b] w fun e w' => e = .returned (.bool (fo a b == some .lt)) ∧ w = w' := by
  go_enter Try.func14, Try.ntmps14
  go_wp2_with fail
  refine (isnan_any _ _).mono ?_
  rintro e w' ⟨rfl, rfl⟩
  rw [fo_nan]
  rw [na]
  go_wp2_with fail
  refine (isnan_any _ _).mono ?_
  rintro e w' ⟨rfl, rfl⟩
  rw [fo_nan]
  rw [nb]
  go_wp2_with fail
  go_ret
  exact ⟨rfl, rfl⟩
theorem less_4 (a b : Nat) (ha : a < 18446744073709551616) (na : FK.nanB a = false) (nb : FK.nanB b = false) (he : (fo a b == some .eq) = true) (sa : FK.sg a = false) (w : World) :
    Calls Try.prog 14 #[.float .f64 a, .float .f64 b] w fun e w' => e = .returned (.bool false) ∧ w = w' := by
  have HA := Lib.hid ha
  clear ha
  go_enter Try.func14, Try.ntmps14
  go_wp2_with fail
  refine (isnan_any _ _).mono ?_
  rintro e w' ⟨rfl, rfl⟩
  rw [fo_nan]
  rw [na]
  go_wp2_with fail
  refine (isnan_any _ _).mono ?_
  rintro e w' ⟨rfl, rfl⟩
  rw [fo_nan]
  rw [nb]
  go_wp2_with fail
  refine (signbit_any _ HA.out _).mono ?_
  rintro e w' ⟨rfl, rfl⟩
  rw [sa]
  go_wp2_with fail
  go_ret
  exact ⟨rfl, rfl⟩
theorem less_5 (a b : Nat) (ha : a < 18446744073709551616) (hb : b < 18446744073709551616) (na : FK.nanB a = false) (nb : FK.nanB b = false) (he : (fo a b == some .eq) = true) (sa : FK.sg a = true) (w : World) :
    Calls Try.prog 14 #[.float .f64 a, .float .f64 b] w fun e w' => e = .returned (.bool (!FK.sg b)) ∧ w = w' := by
  have HA := Lib.hid ha
  have HB := Lib.hid hb
  clear ha hb
  go_enter Try.func14, Try.ntmps14
  go_wp2_with fail
  refine (isnan_any _ _).mono ?_
  rintro e w' ⟨rfl, rfl⟩
  rw [fo_nan]
  rw [na]
  go_wp2_with fail
  refine (isnan_any _ _).mono ?_
  rintro e w' ⟨rfl, rfl⟩
  rw [fo_nan]
  rw [nb]
  go_wp2_with fail
  refine (signbit_any _ HA.out _).mono ?_
  rintro e w' ⟨rfl, rfl⟩
  rw [sa]
  go_wp2_with fail
  refine (signbit_any _ HB.out _).mono ?_
  rintro e w' ⟨rfl, rfl⟩
  go_wp2_with fail
  go_ret
  exact ⟨rfl, rfl⟩
theorem less_any (a b : Nat) (ha : a < 18446744073709551616) (hb : b < 18446744073709551616) (w : World) :
    Calls Try.prog 14 #[.float .f64 a, .float .f64 b] w fun e w' => e = .returned (.bool (lessB a b)) ∧ w = w' := by
  unfold lessB
  have ra := rank_cases a
  have rb := rank_cases b
  have sa := sr_cases a
  have sb := sr_cases b
  cases na : FK.nanB a with
  | true =>
    have e : decide (FK.rank a < FK.rank b) = false := decide_eq_false (by
      cases nb : FK.nanB b <;> rw [na] at ra <;> rw [nb] at rb <;> simp at ra rb ⊢ <;> omega)
    rw [e]; exact less_1 a b na w
  | false =>
    cases nb : FK.nanB b with
    | true =>
      have e : decide (FK.rank a < FK.rank b) = true := by
        rw [na] at ra; rw [nb] at rb; simp at ra rb ⊢; omega
      rw [e]; exact less_2 a b na nb w
    | false =>
      rw [na] at ra
      rw [nb] at rb
      simp only [Bool.false_eq_true, false_and, false_or, true_and] at ra rb
      cases he : (fo a b == some .eq) with
      | false =>
        have h2 := fo_eq a b
        rw [he, na, nb] at h2
        have h3 : FK.sr a ≠ FK.sr b := by simpa using h2.symm
        have e : decide (FK.rank a < FK.rank b) = (fo a b == some .lt) := by
          rw [fo_lt, na, nb]
          simp only [Bool.not_false, Bool.true_and]
          rw [decide_eq_decide]
          have e1 := rank_nn na
          have e2 := rank_nn nb
          have e3 := sr_def a
          have e4 := sr_def b
          cases hsa : FK.sg a <;> cases hsb : FK.sg b <;> rw [hsa] at e1 e3 <;> rw [hsb] at e2 e4 <;> simp only [Bool.false_eq_true, if_false, if_true] at e1 e2 e3 e4 <;> omega
        rw [e]; exact less_3 a b na nb he w
      | true =>
        have h2 := fo_eq a b
        rw [he, na, nb] at h2
        have h3 : FK.sr a = FK.sr b := by simpa using h2.symm
        cases hsa : FK.sg a with
        | false =>
          rw [hsa] at ra sa
          simp only [Bool.false_eq_true, false_and, false_or, true_and] at ra sa
          have e : decide (FK.rank a < FK.rank b) = false := decide_eq_false (by omega)
          rw [e]; exact less_4 a b ha na nb he hsa w
        | true =>
          rw [hsa] at ra sa
          simp only [Bool.true_eq_false, false_and, or_false, true_and] at ra sa
          have e : decide (FK.rank a < FK.rank b) = (!FK.sg b) := by
            have e1 := rank_nn na
            have e2 := rank_nn nb
            have e3 := sr_def a
            have e4 := sr_def b
            rw [hsa] at e1 e3
            cases hsb : FK.sg b <;> rw [hsb] at e2 e4 <;> simp only [Bool.false_eq_true, if_false, if_true] at e1 e2 e3 e4
            · exact decide_eq_true (by omega)
            · exact decide_eq_false (by omega)
          rw [e]; exact less_5 a b ha hb na nb he hsa w
theorem unit_1 (t : Nat) (nt : FK.nanB t = true) (w : World) :
    Calls Try.prog 16 #[.float .f64 t] w fun e w' => e = .returned (.float .f64 0) ∧ w = w' := by
  go_enter Try.func16, Try.ntmps16
  go_wp2_with fail
  refine (isnan_any _ _).mono ?_
  rintro e w' ⟨rfl, rfl⟩
  rw [fo_nan]
  rw [nt]
  go_wp2_with fail
  go_ret
  exact ⟨rfl, rfl⟩
theorem unit_2 (t : Nat) (nt : FK.nanB t = false) (h0 : (fo t 0 == some .lt || fo t 0 == some .eq) = true) (w : World) :
    Calls Try.prog 16 #[.float .f64 t] w fun e w' => e = .returned (.float .f64 0) ∧ w = w' := by
  go_enter Try.func16, Try.ntmps16
  go_wp2_with fail
  refine (isnan_any _ _).mono ?_
  rintro e w' ⟨rfl, rfl⟩
  rw [fo_nan]
  rw [nt]
  go_wp2_with fail
  go_ret
  exact ⟨rfl, rfl⟩
theorem unit_3 (t : Nat) (nt : FK.nanB t = false) (h0 : (fo t 0 == some .lt || fo t 0 == some .eq) = false) (h1 : (fo t 4607182418800017408 == some .gt || fo t 4607182418800017408 == some .eq) = true) (w : World) :
    Calls Try.prog 16 #[.float .f64 t] w fun e w' => e = .returned (.float .f64 4607182418800017408) ∧ w = w' := by
  go_enter Try.func16, Try.ntmps16
  go_wp2_with fail
  refine (isnan_any _ _).mono ?_
  rintro e w' ⟨rfl, rfl⟩
  rw [fo_nan]
  rw [nt]
  go_wp2_with fail
  go_ret
  exact ⟨rfl, rfl⟩
theorem unit_4 (t : Nat) (nt : FK.nanB t = false) (h0 : (fo t 0 == some .lt || fo t 0 == some .eq) = false) (h1 : (fo t 4607182418800017408 == some .gt || fo t 4607182418800017408 == some .eq) = false) (w : World) :
    Calls Try.prog 16 #[.float .f64 t] w fun e w' => e = .returned (.float .f64 t) ∧ w = w' := by
  go_enter Try.func16, Try.ntmps16
  go_wp2_with fail
  refine (isnan_any _ _).mono ?_
  rintro e w' ⟨rfl, rfl⟩
  rw [fo_nan]
  rw [nt]
  go_wp2_with fail
  go_ret
  exact ⟨rfl, rfl⟩
theorem unit_any (t : Nat) (w : World) :
    Calls Try.prog 16 #[.float .f64 t] w fun e w' => e = .returned (.float .f64 (FK.unit t)) ∧ w = w' := by
  unfold FK.unit
  cases nt : FK.nanB t with
  | true => exact unit_1 t nt w
  | false =>
    have l0 := fo_le t 0
    rw [nt, nn_zero, sr_zero] at l0
    have l1 := fo_ge t 4607182418800017408
    rw [nt, nn_one, sr_one] at l1
    simp only [Bool.not_false, Bool.true_and] at l0 l1
    rw [← l0, ← l1]
    simp only [Bool.false_or]
    cases h0 : (fo t 0 == some .lt || fo t 0 == some .eq) with
    | true => exact unit_2 t nt h0 w
    | false =>
      cases h1 : (fo t 4607182418800017408 == some .gt || fo t 4607182418800017408 == some .eq) with
      | true => exact unit_3 t nt h0 h1 w
      | false => exact unit_4 t nt h0 h1 w
end Go.Proofs.Ytmkmlkfnodhejaa
