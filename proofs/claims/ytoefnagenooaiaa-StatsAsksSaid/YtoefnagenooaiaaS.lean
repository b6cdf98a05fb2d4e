/-
  Stats: the Go text of StatsAsks returns true for every input.
-/
import Derived.Test.YtoefnagenooaiaaQ
namespace Go.Proofs.Ytoefnagenooaiaa
set_option linter.unusedVariables false
open Go.ChangeShapes Go.WideShapes Go.ChangeAt Go.RowKit
attribute [local go_sem] run_neg_f64 frombits_run bits_run run_store_float

theorem rscore_bad0 (m s a : Nat) (nm : (fo m m != some .eq) = true) (w : World) :
    Calls Try.prog 20 #[.float .f64 m, .float .f64 s, .float .f64 a] w fun e w' => e = .returned (.float .f64 0) ∧ w = w' := by
  go_enter Try.func20, Try.ntmps20
  go_wp2_with fail
  refine (rnan_any _ _).mono ?_
  rintro e w' ⟨rfl, rfl⟩
  rw [nm]
  go_wp2_with fail
  go_ret
  exact ⟨rfl, rfl⟩
theorem rscore_bad1 (m s a : Nat) (nm : (fo m m != some .eq) = false)(ns : (fo s s != some .eq) = true) (w : World) :
    Calls Try.prog 20 #[.float .f64 m, .float .f64 s, .float .f64 a] w fun e w' => e = .returned (.float .f64 0) ∧ w = w' := by
  go_enter Try.func20, Try.ntmps20
  go_wp2_with fail
  refine (rnan_any _ _).mono ?_
  rintro e w' ⟨rfl, rfl⟩
  rw [nm]
  go_wp2_with fail
  refine (rnan_any _ _).mono ?_
  rintro e w' ⟨rfl, rfl⟩
  rw [ns]
  go_wp2_with fail
  go_ret
  exact ⟨rfl, rfl⟩
theorem rscore_bad2 (m s a : Nat) (nm : (fo m m != some .eq) = false)(ns : (fo s s != some .eq) = false)(na : (fo a a != some .eq) = true) (w : World) :
    Calls Try.prog 20 #[.float .f64 m, .float .f64 s, .float .f64 a] w fun e w' => e = .returned (.float .f64 0) ∧ w = w' := by
  go_enter Try.func20, Try.ntmps20
  go_wp2_with fail
  refine (rnan_any _ _).mono ?_
  rintro e w' ⟨rfl, rfl⟩
  rw [nm]
  go_wp2_with fail
  refine (rnan_any _ _).mono ?_
  rintro e w' ⟨rfl, rfl⟩
  rw [ns]
  go_wp2_with fail
  refine (rnan_any _ _).mono ?_
  rintro e w' ⟨rfl, rfl⟩
  rw [na]
  go_wp2_with fail
  go_ret
  exact ⟨rfl, rfl⟩
theorem rscore_bad3 (m s a : Nat) (nm : (fo m m != some .eq) = false)(ns : (fo s s != some .eq) = false)(na : (fo a a != some .eq) = false)(lm : (fo m 0 == some .lt) = true) (w : World) :
    Calls Try.prog 20 #[.float .f64 m, .float .f64 s, .float .f64 a] w fun e w' => e = .returned (.float .f64 0) ∧ w = w' := by
  go_enter Try.func20, Try.ntmps20
  go_wp2_with fail
  refine (rnan_any _ _).mono ?_
  rintro e w' ⟨rfl, rfl⟩
  rw [nm]
  go_wp2_with fail
  refine (rnan_any _ _).mono ?_
  rintro e w' ⟨rfl, rfl⟩
  rw [ns]
  go_wp2_with fail
  refine (rnan_any _ _).mono ?_
  rintro e w' ⟨rfl, rfl⟩
  rw [na]
  go_wp2_with fail
  go_ret
  exact ⟨rfl, rfl⟩
theorem rscore_bad4 (m s a : Nat) (nm : (fo m m != some .eq) = false)(ns : (fo s s != some .eq) = false)(na : (fo a a != some .eq) = false)(lm : (fo m 0 == some .lt) = false)(ls : (fo s 0 == some .lt) = true) (w : World) :
    Calls Try.prog 20 #[.float .f64 m, .float .f64 s, .float .f64 a] w fun e w' => e = .returned (.float .f64 0) ∧ w = w' := by
  go_enter Try.func20, Try.ntmps20
  go_wp2_with fail
  refine (rnan_any _ _).mono ?_
  rintro e w' ⟨rfl, rfl⟩
  rw [nm]
  go_wp2_with fail
  refine (rnan_any _ _).mono ?_
  rintro e w' ⟨rfl, rfl⟩
  rw [ns]
  go_wp2_with fail
  refine (rnan_any _ _).mono ?_
  rintro e w' ⟨rfl, rfl⟩
  rw [na]
  go_wp2_with fail
  go_ret
  exact ⟨rfl, rfl⟩
theorem rscore_bad5 (m s a : Nat) (nm : (fo m m != some .eq) = false)(ns : (fo s s != some .eq) = false)(na : (fo a a != some .eq) = false)(lm : (fo m 0 == some .lt) = false)(ls : (fo s 0 == some .lt) = false)(gm : (fo m 9218868437227405311 == some .gt) = true) (w : World) :
    Calls Try.prog 20 #[.float .f64 m, .float .f64 s, .float .f64 a] w fun e w' => e = .returned (.float .f64 0) ∧ w = w' := by
  go_enter Try.func20, Try.ntmps20
  go_wp2_with fail
  refine (rnan_any _ _).mono ?_
  rintro e w' ⟨rfl, rfl⟩
  rw [nm]
  go_wp2_with fail
  refine (rnan_any _ _).mono ?_
  rintro e w' ⟨rfl, rfl⟩
  rw [ns]
  go_wp2_with fail
  refine (rnan_any _ _).mono ?_
  rintro e w' ⟨rfl, rfl⟩
  rw [na]
  go_wp2_with fail
  go_ret
  exact ⟨rfl, rfl⟩
theorem rscore_bad6 (m s a : Nat) (nm : (fo m m != some .eq) = false)(ns : (fo s s != some .eq) = false)(na : (fo a a != some .eq) = false)(lm : (fo m 0 == some .lt) = false)(ls : (fo s 0 == some .lt) = false)(gm : (fo m 9218868437227405311 == some .gt) = false)(gs : (fo s 9218868437227405311 == some .gt) = true) (w : World) :
    Calls Try.prog 20 #[.float .f64 m, .float .f64 s, .float .f64 a] w fun e w' => e = .returned (.float .f64 0) ∧ w = w' := by
  go_enter Try.func20, Try.ntmps20
  go_wp2_with fail
  refine (rnan_any _ _).mono ?_
  rintro e w' ⟨rfl, rfl⟩
  rw [nm]
  go_wp2_with fail
  refine (rnan_any _ _).mono ?_
  rintro e w' ⟨rfl, rfl⟩
  rw [ns]
  go_wp2_with fail
  refine (rnan_any _ _).mono ?_
  rintro e w' ⟨rfl, rfl⟩
  rw [na]
  go_wp2_with fail
  go_ret
  exact ⟨rfl, rfl⟩
theorem rscore_ok (m s a : Nat) (z1 z2 z3 z4 l q : Nat) (S : ScoreAt m s (unitF a) z1 z2 z3 z4 l q) (nm : (fo m m != some .eq) = false)(ns : (fo s s != some .eq) = false)(na : (fo a a != some .eq) = false)(lm : (fo m 0 == some .lt) = false)(ls : (fo s 0 == some .lt) = false)(gm : (fo m 9218868437227405311 == some .gt) = false)(gs : (fo s 9218868437227405311 == some .gt) = false) (w : World) :
    Calls Try.prog 20 #[.float .f64 m, .float .f64 s, .float .f64 a] w fun e w' => e = .returned (.float .f64 q) ∧ w = w' := by
  have x1 := fun (W : World) => run_float_arith (P := Try.prog) W .mul 23 .f64 _ _ _ S.mul
  have x2 := fun (W : World) => run_float_arith (P := Try.prog) W .add 23 .f64 _ _ _ S.add
  have x3 := fun (W : World) => run_float_arith (P := Try.prog) W .quo 23 .f64 _ _ _ S.div
  have x4 := fun (W : World) => run_float_arith (P := Try.prog) W .add 23 .f64 _ _ _ S.one
  have x5 := fun (W : World) => run_float_arith (P := Try.prog) W .sub 23 .f64 _ _ _ S.left
  have x6 := fun (W : World) => run_float_arith (P := Try.prog) W .quo 23 .f64 _ _ _ S.quo
  have hq := q_zero S.hi
  have HS := Lib.hid S
  clear S
  by_cases hz : q = 0
  · subst hz
    have hz2 : (fo 0 0 == some .eq) = true := by rw [hq]; rfl
    clear hq
    go_enter Try.func20, Try.ntmps20
    go_wp2_with fail
    refine (rnan_any _ _).mono ?_
    rintro e w' ⟨rfl, rfl⟩
    rw [nm]
    go_wp2_with fail
    refine (rnan_any _ _).mono ?_
    rintro e w' ⟨rfl, rfl⟩
    rw [ns]
    go_wp2_with fail
    refine (rnan_any _ _).mono ?_
    rintro e w' ⟨rfl, rfl⟩
    rw [na]
    go_wp2_with fail
    refine (runit_any _ _).mono ?_
    rintro e w' ⟨rfl, rfl⟩
    generalize unitF a = u at *
    go_wp2_with fail
    go_ret
    exact ⟨rfl, rfl⟩
  · have hz2 : (fo q 0 == some .eq) = false := by rw [hq]; simp [hz]
    clear hq
    go_enter Try.func20, Try.ntmps20
    go_wp2_with fail
    refine (rnan_any _ _).mono ?_
    rintro e w' ⟨rfl, rfl⟩
    rw [nm]
    go_wp2_with fail
    refine (rnan_any _ _).mono ?_
    rintro e w' ⟨rfl, rfl⟩
    rw [ns]
    go_wp2_with fail
    refine (rnan_any _ _).mono ?_
    rintro e w' ⟨rfl, rfl⟩
    rw [na]
    go_wp2_with fail
    refine (runit_any _ _).mono ?_
    rintro e w' ⟨rfl, rfl⟩
    generalize unitF a = u at *
    go_wp2_with fail
    go_ret
    exact ⟨rfl, rfl⟩

theorem rscore_any (m s a q : Nat) (h : IsScore m s a q) (w : World) :
    Calls Try.prog 20 #[.float .f64 m, .float .f64 s, .float .f64 a] w fun e w' => e = .returned (.float .f64 q) ∧ w = w' := by
  have hd : ∀ x, badF x = ((fo x x != some .eq) || ((fo x 0 == some .lt) || (fo x 9218868437227405311 == some .gt))) := fun x => rfl
  have hn : ∀ x, nanB x = (fo x x != some .eq) := fun x => rfl
  rcases h with ⟨h1, h2, h3, z1, z2, z3, z4, l, S⟩ | ⟨h, rfl⟩
  · rw [hd] at h1 h2
    rw [hn] at h3
    simp only [Bool.or_eq_false_iff] at h1 h2
    exact rscore_ok m s a z1 z2 z3 z4 l q S h1.1 h2.1 h3 h1.2.1 h2.2.1 h1.2.2 h2.2.2 w
  · rw [hd, hd, hn] at h
    cases nm : (fo m m != some .eq) with
    | true => exact rscore_bad0 m s a nm w
    | false =>
    cases ns : (fo s s != some .eq) with
    | true => exact rscore_bad1 m s a nm ns w
    | false =>
    cases na : (fo a a != some .eq) with
    | true => exact rscore_bad2 m s a nm ns na w
    | false =>
    cases lm : (fo m 0 == some .lt) with
    | true => exact rscore_bad3 m s a nm ns na lm w
    | false =>
    cases ls : (fo s 0 == some .lt) with
    | true => exact rscore_bad4 m s a nm ns na lm ls w
    | false =>
    cases gm : (fo m 9218868437227405311 == some .gt) with
    | true => exact rscore_bad5 m s a nm ns na lm ls gm w
    | false =>
    cases gs : (fo s 9218868437227405311 == some .gt) with
    | true => exact rscore_bad6 m s a nm ns na lm ls gm gs w
    | false => rw [nm, ns, na, lm, ls, gm, gs] at h; simp at h
end Go.Proofs.Ytoefnagenooaiaa
