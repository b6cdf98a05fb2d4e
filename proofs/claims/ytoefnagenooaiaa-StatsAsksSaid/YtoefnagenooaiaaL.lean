/-
  Stats: what both Adds do, at nought below too.
-/
import Derived.Test.YtoefnagenooaiaaJ
namespace Go.Proofs.Ytoefnagenooaiaa
set_option linter.unusedVariables false
open Go.ChangeShapes Go.WideShapes Go.ChangeAt Go.RowKit
attribute [local go_sem] run_neg_f64 frombits_run bits_run run_store_float

set_option maxHeartbeats 2000000 in
theorem add_more_z (b : Nat) (n : Int) (m s l h : Nat) (f : Nat) (hf : f < 18446744073709551616) (d p m' d2 p2 s' : Nat) (h1 : FK.Step m 0 4620693217682128896 d p m') (h2 : FK.Step s (FK.rg d) 4616189618054758400 d2 p2 s') (hl : l < 9218868437227405312) (hh : h < 9218868437227405312) (n0 : 1 ≤ n) (n1 : n < 1000) (w : World) (a : LineAt w b n m s l h) (ff : FK.rg f = 0) (t1 : (fo f f != some .eq) = false) (t2 : (fo 0 9218868437227405311 == some .gt) = false) (t3 : (fo f 0 == some .lt) = false) :
    Calls Try.prog 11 #[.pointer (some ⟨b, 0, none⟩), .float .f64 f] w fun e w' => e = .returned (.bool true) ∧ LineAt w' b (n + 1) m' s' (min l 0) (max h 0) ∧ Only b w w' := by
  obtain ⟨c0, c1, c2, c3, c4, f0, f1, f2, f3, f4⟩ := a
  have HF := Lib.hid hf
  have FF := Lib.hid ff
  have DD := Lib.hid h1.dlt
  have x1 := fun (W : World) => run_float_arith (P := Try.prog) W .sub 23 .f64 _ _ _ h1.sub
  have x2 := fun (W : World) => run_float_arith (P := Try.prog) W .quo 23 .f64 _ _ _ h1.div
  have x3 := fun (W : World) => run_float_arith (P := Try.prog) W .add 23 .f64 _ _ _ h1.add
  have x4 := fun (W : World) => run_float_arith (P := Try.prog) W .sub 23 .f64 _ _ _ h2.sub
  have x5 := fun (W : World) => run_float_arith (P := Try.prog) W .quo 23 .f64 _ _ _ h2.div
  have x6 := fun (W : World) => run_float_arith (P := Try.prog) W .add 23 .f64 _ _ _ h2.add
  have x7 := fun ts t (W : World) => run_min_f (P := Try.prog) (x := l) (y := 0) (by omega) (by omega) ts t W
  have x8 := fun ts t (W : World) => run_max_f (P := Try.prog) (x := h) (y := 0) (by omega) (by omega) ts t W
  have H1 := Lib.hid h1
  have H2 := Lib.hid h2
  clear h1 h2 hf ff hl hh
  go_enter Try.func11, Try.ntmps11
  go_wp2_with fail
  refine (isnan_any _ _).mono ?_
  rintro e w' ⟨rfl, rfl⟩
  rw [t1]
  go_wp2_with fail
  refine (isinf_any _ HF.out _).mono ?_
  rintro e w' ⟨rfl, rfl⟩
  rw [FF.out, t2]
  go_wp2_with fail
  refine (abs_any _ HF.out _).mono ?_
  rintro e w' ⟨rfl, rfl⟩
  rw [FF.out]
  go_wp2_with fail
  go_quiet ((go_at_call 24; exact quiet_eq (abs_any d DD.out _)))
  go_wp2_with fail
  obtain ⟨w2, hw2⟩ : ∃ w2, w2 = (((w.setCell ⟨b, 0, none⟩ (.int .i64 (n + 1))).setCell ⟨b, 1, none⟩ (.float .f64 m')).drewN nq).setCell ⟨b, 2, none⟩ (.float .f64 s') := ⟨_, rfl⟩
  have hL : LineAt w2 b (n + 1) m' s' l h := by
    rw [hw2]
    refine lineAt_of ?_ ?_ ?_ ?_ ?_ ?_ ?_ ?_ ?_ ?_
    all_goals go_simp
  have hO : Only b w w2 := by
    rw [hw2]
    exact (((((Only.refl b w).setCell rfl _).setCell rfl _).drewN _).setCell rfl _)
  rw [← hw2]
  have HO := Lib.hid hO
  clear hO hw2 c0 c1 c2 c3 c4 f0 f1 f2 f3 f4 x1 x2 x3 x4 x5 x6
  obtain ⟨c0, c1, c2, c3, c4, f0, f1, f2, f3, f4⟩ := hL
  go_region_with (fail)
  all_goals (go_wp2; go_ret)
  all_goals refine ⟨rfl, lineAt_of ?_ ?_ ?_ ?_ ?_ ?_ ?_ ?_ ?_ ?_, ?_⟩
  all_goals go_light
  all_goals first | (go_simp; done) | (repeat (first | exact HO.out | refine Only.drew ?_ | refine Only.drewN ?_ _ | refine Only.setCell ?_ (by exact rfl) _))
end Go.Proofs.Ytoefnagenooaiaa
