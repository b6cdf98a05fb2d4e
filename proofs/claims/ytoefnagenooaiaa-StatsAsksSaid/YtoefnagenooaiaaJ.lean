/-
  Stats: what the reference's Add does behind the first.
-/
import Derived.Test.YtoefnagenooaiaaI
namespace Go.Proofs.Ytoefnagenooaiaa
set_option linter.unusedVariables false
open Go.ChangeShapes Go.WideShapes Go.ChangeAt Go.RowKit
attribute [local go_sem] run_neg_f64 frombits_run bits_run run_store_float

set_option maxHeartbeats 2000000 in
theorem radd_more_znlk (b : Nat) (n : Int) (m s l h f d p m' r d2 p2 s' : Nat) (hf : f < 18446744073709551616) (ff : FK.rg f = 0) (n0 : 1 ≤ n) (n1 : n < 1000) (h1 : FK.Step m 0 4620693217682128896 d p m') (h2 : FK.Step s r 4616189618054758400 d2 p2 s') (hr : Op.negFloat .f64 d = r) (t1 : (fo f f != some .eq) = false) (t2 : (fo f 9218868437227405311 == some .gt) = false) (t3 : (fo f 0 == some .lt) = false) (t4 : (fo f 0 == some .eq) = true) (t5 : (fo d 0 == some .lt) = true) (t6 : (fo 0 l == some .lt) = true) (t7 : (fo 0 h == some .gt) = false) (w : World) (a : LineAt w b n m s l h) :
    Calls Try.prog 12 #[.pointer (some ⟨b, 0, none⟩), .float .f64 f] w fun e w' => e = .returned (.bool true) ∧ LineAt w' b (n + 1) m' s' 0 h ∧ Only b w w' := by
  subst hr
  obtain ⟨c0, c1, c2, c3, c4, f0, f1, f2, f3, f4⟩ := a
  have x1 := fun (W : World) => run_float_arith (P := Try.prog) W .sub 23 .f64 _ _ _ h1.sub
  have x2 := fun (W : World) => run_float_arith (P := Try.prog) W .quo 23 .f64 _ _ _ h1.div
  have x3 := fun (W : World) => run_float_arith (P := Try.prog) W .add 23 .f64 _ _ _ h1.add
  have x4 := fun (W : World) => run_float_arith (P := Try.prog) W .sub 23 .f64 _ _ _ h2.sub
  have x5 := fun (W : World) => run_float_arith (P := Try.prog) W .quo 23 .f64 _ _ _ h2.div
  have x6 := fun (W : World) => run_float_arith (P := Try.prog) W .add 23 .f64 _ _ _ h2.add
  have HF := Lib.hid hf
  have FF := Lib.hid ff
  clear hf ff h1 h2
  go_enter Try.func12, Try.ntmps12
  go_wp2_with fail
  refine (rnan_any _ _).mono ?_
  rintro e w' ⟨rfl, rfl⟩
  rw [t1]
  go_wp2_with fail
  refine (abs_any _ HF.out _).mono ?_
  rintro e w' ⟨rfl, rfl⟩
  rw [FF.out]
  go_wp2_with fail
  go_ret
  refine ⟨rfl, lineAt_of ?_ ?_ ?_ ?_ ?_ ?_ ?_ ?_ ?_ ?_, ?_⟩
  all_goals go_light
  all_goals first | (go_simp; done) | (repeat (first | exact Only.refl _ _ | refine Only.drew ?_ | refine Only.drewN ?_ _ | refine Only.setCell ?_ (by exact rfl) _))
set_option maxHeartbeats 2000000 in
theorem radd_more_znkk (b : Nat) (n : Int) (m s l h f d p m' r d2 p2 s' : Nat) (hf : f < 18446744073709551616) (ff : FK.rg f = 0) (n0 : 1 ≤ n) (n1 : n < 1000) (h1 : FK.Step m 0 4620693217682128896 d p m') (h2 : FK.Step s r 4616189618054758400 d2 p2 s') (hr : Op.negFloat .f64 d = r) (t1 : (fo f f != some .eq) = false) (t2 : (fo f 9218868437227405311 == some .gt) = false) (t3 : (fo f 0 == some .lt) = false) (t4 : (fo f 0 == some .eq) = true) (t5 : (fo d 0 == some .lt) = true) (t6 : (fo 0 l == some .lt) = false) (t7 : (fo 0 h == some .gt) = false) (w : World) (a : LineAt w b n m s l h) :
    Calls Try.prog 12 #[.pointer (some ⟨b, 0, none⟩), .float .f64 f] w fun e w' => e = .returned (.bool true) ∧ LineAt w' b (n + 1) m' s' l h ∧ Only b w w' := by
  subst hr
  obtain ⟨c0, c1, c2, c3, c4, f0, f1, f2, f3, f4⟩ := a
  have x1 := fun (W : World) => run_float_arith (P := Try.prog) W .sub 23 .f64 _ _ _ h1.sub
  have x2 := fun (W : World) => run_float_arith (P := Try.prog) W .quo 23 .f64 _ _ _ h1.div
  have x3 := fun (W : World) => run_float_arith (P := Try.prog) W .add 23 .f64 _ _ _ h1.add
  have x4 := fun (W : World) => run_float_arith (P := Try.prog) W .sub 23 .f64 _ _ _ h2.sub
  have x5 := fun (W : World) => run_float_arith (P := Try.prog) W .quo 23 .f64 _ _ _ h2.div
  have x6 := fun (W : World) => run_float_arith (P := Try.prog) W .add 23 .f64 _ _ _ h2.add
  have HF := Lib.hid hf
  have FF := Lib.hid ff
  clear hf ff h1 h2
  go_enter Try.func12, Try.ntmps12
  go_wp2_with fail
  refine (rnan_any _ _).mono ?_
  rintro e w' ⟨rfl, rfl⟩
  rw [t1]
  go_wp2_with fail
  refine (abs_any _ HF.out _).mono ?_
  rintro e w' ⟨rfl, rfl⟩
  rw [FF.out]
  go_wp2_with fail
  go_ret
  refine ⟨rfl, lineAt_of ?_ ?_ ?_ ?_ ?_ ?_ ?_ ?_ ?_ ?_, ?_⟩
  all_goals go_light
  all_goals first | (go_simp; done) | (repeat (first | exact Only.refl _ _ | refine Only.drew ?_ | refine Only.drewN ?_ _ | refine Only.setCell ?_ (by exact rfl) _))
set_option maxHeartbeats 2000000 in
theorem radd_more_zplk (b : Nat) (n : Int) (m s l h f d p m' r d2 p2 s' : Nat) (hf : f < 18446744073709551616) (ff : FK.rg f = 0) (n0 : 1 ≤ n) (n1 : n < 1000) (h1 : FK.Step m 0 4620693217682128896 d p m') (h2 : FK.Step s r 4616189618054758400 d2 p2 s') (hr : d = r) (t1 : (fo f f != some .eq) = false) (t2 : (fo f 9218868437227405311 == some .gt) = false) (t3 : (fo f 0 == some .lt) = false) (t4 : (fo f 0 == some .eq) = true) (t5 : (fo d 0 == some .lt) = false) (t6 : (fo 0 l == some .lt) = true) (t7 : (fo 0 h == some .gt) = false) (w : World) (a : LineAt w b n m s l h) :
    Calls Try.prog 12 #[.pointer (some ⟨b, 0, none⟩), .float .f64 f] w fun e w' => e = .returned (.bool true) ∧ LineAt w' b (n + 1) m' s' 0 h ∧ Only b w w' := by
  subst hr
  obtain ⟨c0, c1, c2, c3, c4, f0, f1, f2, f3, f4⟩ := a
  have x1 := fun (W : World) => run_float_arith (P := Try.prog) W .sub 23 .f64 _ _ _ h1.sub
  have x2 := fun (W : World) => run_float_arith (P := Try.prog) W .quo 23 .f64 _ _ _ h1.div
  have x3 := fun (W : World) => run_float_arith (P := Try.prog) W .add 23 .f64 _ _ _ h1.add
  have x4 := fun (W : World) => run_float_arith (P := Try.prog) W .sub 23 .f64 _ _ _ h2.sub
  have x5 := fun (W : World) => run_float_arith (P := Try.prog) W .quo 23 .f64 _ _ _ h2.div
  have x6 := fun (W : World) => run_float_arith (P := Try.prog) W .add 23 .f64 _ _ _ h2.add
  have HF := Lib.hid hf
  have FF := Lib.hid ff
  clear hf ff h1 h2
  go_enter Try.func12, Try.ntmps12
  go_wp2_with fail
  refine (rnan_any _ _).mono ?_
  rintro e w' ⟨rfl, rfl⟩
  rw [t1]
  go_wp2_with fail
  refine (abs_any _ HF.out _).mono ?_
  rintro e w' ⟨rfl, rfl⟩
  rw [FF.out]
  go_wp2_with fail
  go_ret
  refine ⟨rfl, lineAt_of ?_ ?_ ?_ ?_ ?_ ?_ ?_ ?_ ?_ ?_, ?_⟩
  all_goals go_light
  all_goals first | (go_simp; done) | (repeat (first | exact Only.refl _ _ | refine Only.drew ?_ | refine Only.drewN ?_ _ | refine Only.setCell ?_ (by exact rfl) _))
set_option maxHeartbeats 2000000 in
theorem radd_more_zpkk (b : Nat) (n : Int) (m s l h f d p m' r d2 p2 s' : Nat) (hf : f < 18446744073709551616) (ff : FK.rg f = 0) (n0 : 1 ≤ n) (n1 : n < 1000) (h1 : FK.Step m 0 4620693217682128896 d p m') (h2 : FK.Step s r 4616189618054758400 d2 p2 s') (hr : d = r) (t1 : (fo f f != some .eq) = false) (t2 : (fo f 9218868437227405311 == some .gt) = false) (t3 : (fo f 0 == some .lt) = false) (t4 : (fo f 0 == some .eq) = true) (t5 : (fo d 0 == some .lt) = false) (t6 : (fo 0 l == some .lt) = false) (t7 : (fo 0 h == some .gt) = false) (w : World) (a : LineAt w b n m s l h) :
    Calls Try.prog 12 #[.pointer (some ⟨b, 0, none⟩), .float .f64 f] w fun e w' => e = .returned (.bool true) ∧ LineAt w' b (n + 1) m' s' l h ∧ Only b w w' := by
  subst hr
  obtain ⟨c0, c1, c2, c3, c4, f0, f1, f2, f3, f4⟩ := a
  have x1 := fun (W : World) => run_float_arith (P := Try.prog) W .sub 23 .f64 _ _ _ h1.sub
  have x2 := fun (W : World) => run_float_arith (P := Try.prog) W .quo 23 .f64 _ _ _ h1.div
  have x3 := fun (W : World) => run_float_arith (P := Try.prog) W .add 23 .f64 _ _ _ h1.add
  have x4 := fun (W : World) => run_float_arith (P := Try.prog) W .sub 23 .f64 _ _ _ h2.sub
  have x5 := fun (W : World) => run_float_arith (P := Try.prog) W .quo 23 .f64 _ _ _ h2.div
  have x6 := fun (W : World) => run_float_arith (P := Try.prog) W .add 23 .f64 _ _ _ h2.add
  have HF := Lib.hid hf
  have FF := Lib.hid ff
  clear hf ff h1 h2
  go_enter Try.func12, Try.ntmps12
  go_wp2_with fail
  refine (rnan_any _ _).mono ?_
  rintro e w' ⟨rfl, rfl⟩
  rw [t1]
  go_wp2_with fail
  refine (abs_any _ HF.out _).mono ?_
  rintro e w' ⟨rfl, rfl⟩
  rw [FF.out]
  go_wp2_with fail
  go_ret
  refine ⟨rfl, lineAt_of ?_ ?_ ?_ ?_ ?_ ?_ ?_ ?_ ?_ ?_, ?_⟩
  all_goals go_light
  all_goals first | (go_simp; done) | (repeat (first | exact Only.refl _ _ | refine Only.drew ?_ | refine Only.drewN ?_ _ | refine Only.setCell ?_ (by exact rfl) _))
set_option maxHeartbeats 2000000 in
theorem radd_more_pnlg (b : Nat) (n : Int) (m s l h f d p m' r d2 p2 s' : Nat) (hf : f < 18446744073709551616) (ff : FK.rg f = f) (n0 : 1 ≤ n) (n1 : n < 1000) (h1 : FK.Step m f 4620693217682128896 d p m') (h2 : FK.Step s r 4616189618054758400 d2 p2 s') (hr : Op.negFloat .f64 d = r) (t1 : (fo f f != some .eq) = false) (t2 : (fo f 9218868437227405311 == some .gt) = false) (t3 : (fo f 0 == some .lt) = false) (t4 : (fo f 0 == some .eq) = false) (t5 : (fo d 0 == some .lt) = true) (t6 : (fo f l == some .lt) = true) (t7 : (fo f h == some .gt) = true) (w : World) (a : LineAt w b n m s l h) :
    Calls Try.prog 12 #[.pointer (some ⟨b, 0, none⟩), .float .f64 f] w fun e w' => e = .returned (.bool true) ∧ LineAt w' b (n + 1) m' s' f f ∧ Only b w w' := by
  subst hr
  obtain ⟨c0, c1, c2, c3, c4, f0, f1, f2, f3, f4⟩ := a
  have x1 := fun (W : World) => run_float_arith (P := Try.prog) W .sub 23 .f64 _ _ _ h1.sub
  have x2 := fun (W : World) => run_float_arith (P := Try.prog) W .quo 23 .f64 _ _ _ h1.div
  have x3 := fun (W : World) => run_float_arith (P := Try.prog) W .add 23 .f64 _ _ _ h1.add
  have x4 := fun (W : World) => run_float_arith (P := Try.prog) W .sub 23 .f64 _ _ _ h2.sub
  have x5 := fun (W : World) => run_float_arith (P := Try.prog) W .quo 23 .f64 _ _ _ h2.div
  have x6 := fun (W : World) => run_float_arith (P := Try.prog) W .add 23 .f64 _ _ _ h2.add
  have HF := Lib.hid hf
  have FF := Lib.hid ff
  clear hf ff h1 h2
  go_enter Try.func12, Try.ntmps12
  go_wp2_with fail
  refine (rnan_any _ _).mono ?_
  rintro e w' ⟨rfl, rfl⟩
  rw [t1]
  go_wp2_with fail
  go_ret
  refine ⟨rfl, lineAt_of ?_ ?_ ?_ ?_ ?_ ?_ ?_ ?_ ?_ ?_, ?_⟩
  all_goals go_light
  all_goals first | (go_simp; done) | (repeat (first | exact Only.refl _ _ | refine Only.drew ?_ | refine Only.drewN ?_ _ | refine Only.setCell ?_ (by exact rfl) _))
set_option maxHeartbeats 2000000 in
theorem radd_more_pnlk (b : Nat) (n : Int) (m s l h f d p m' r d2 p2 s' : Nat) (hf : f < 18446744073709551616) (ff : FK.rg f = f) (n0 : 1 ≤ n) (n1 : n < 1000) (h1 : FK.Step m f 4620693217682128896 d p m') (h2 : FK.Step s r 4616189618054758400 d2 p2 s') (hr : Op.negFloat .f64 d = r) (t1 : (fo f f != some .eq) = false) (t2 : (fo f 9218868437227405311 == some .gt) = false) (t3 : (fo f 0 == some .lt) = false) (t4 : (fo f 0 == some .eq) = false) (t5 : (fo d 0 == some .lt) = true) (t6 : (fo f l == some .lt) = true) (t7 : (fo f h == some .gt) = false) (w : World) (a : LineAt w b n m s l h) :
    Calls Try.prog 12 #[.pointer (some ⟨b, 0, none⟩), .float .f64 f] w fun e w' => e = .returned (.bool true) ∧ LineAt w' b (n + 1) m' s' f h ∧ Only b w w' := by
  subst hr
  obtain ⟨c0, c1, c2, c3, c4, f0, f1, f2, f3, f4⟩ := a
  have x1 := fun (W : World) => run_float_arith (P := Try.prog) W .sub 23 .f64 _ _ _ h1.sub
  have x2 := fun (W : World) => run_float_arith (P := Try.prog) W .quo 23 .f64 _ _ _ h1.div
  have x3 := fun (W : World) => run_float_arith (P := Try.prog) W .add 23 .f64 _ _ _ h1.add
  have x4 := fun (W : World) => run_float_arith (P := Try.prog) W .sub 23 .f64 _ _ _ h2.sub
  have x5 := fun (W : World) => run_float_arith (P := Try.prog) W .quo 23 .f64 _ _ _ h2.div
  have x6 := fun (W : World) => run_float_arith (P := Try.prog) W .add 23 .f64 _ _ _ h2.add
  have HF := Lib.hid hf
  have FF := Lib.hid ff
  clear hf ff h1 h2
  go_enter Try.func12, Try.ntmps12
  go_wp2_with fail
  refine (rnan_any _ _).mono ?_
  rintro e w' ⟨rfl, rfl⟩
  rw [t1]
  go_wp2_with fail
  go_ret
  refine ⟨rfl, lineAt_of ?_ ?_ ?_ ?_ ?_ ?_ ?_ ?_ ?_ ?_, ?_⟩
  all_goals go_light
  all_goals first | (go_simp; done) | (repeat (first | exact Only.refl _ _ | refine Only.drew ?_ | refine Only.drewN ?_ _ | refine Only.setCell ?_ (by exact rfl) _))
set_option maxHeartbeats 2000000 in
theorem radd_more_pnkg (b : Nat) (n : Int) (m s l h f d p m' r d2 p2 s' : Nat) (hf : f < 18446744073709551616) (ff : FK.rg f = f) (n0 : 1 ≤ n) (n1 : n < 1000) (h1 : FK.Step m f 4620693217682128896 d p m') (h2 : FK.Step s r 4616189618054758400 d2 p2 s') (hr : Op.negFloat .f64 d = r) (t1 : (fo f f != some .eq) = false) (t2 : (fo f 9218868437227405311 == some .gt) = false) (t3 : (fo f 0 == some .lt) = false) (t4 : (fo f 0 == some .eq) = false) (t5 : (fo d 0 == some .lt) = true) (t6 : (fo f l == some .lt) = false) (t7 : (fo f h == some .gt) = true) (w : World) (a : LineAt w b n m s l h) :
    Calls Try.prog 12 #[.pointer (some ⟨b, 0, none⟩), .float .f64 f] w fun e w' => e = .returned (.bool true) ∧ LineAt w' b (n + 1) m' s' l f ∧ Only b w w' := by
  subst hr
  obtain ⟨c0, c1, c2, c3, c4, f0, f1, f2, f3, f4⟩ := a
  have x1 := fun (W : World) => run_float_arith (P := Try.prog) W .sub 23 .f64 _ _ _ h1.sub
  have x2 := fun (W : World) => run_float_arith (P := Try.prog) W .quo 23 .f64 _ _ _ h1.div
  have x3 := fun (W : World) => run_float_arith (P := Try.prog) W .add 23 .f64 _ _ _ h1.add
  have x4 := fun (W : World) => run_float_arith (P := Try.prog) W .sub 23 .f64 _ _ _ h2.sub
  have x5 := fun (W : World) => run_float_arith (P := Try.prog) W .quo 23 .f64 _ _ _ h2.div
  have x6 := fun (W : World) => run_float_arith (P := Try.prog) W .add 23 .f64 _ _ _ h2.add
  have HF := Lib.hid hf
  have FF := Lib.hid ff
  clear hf ff h1 h2
  go_enter Try.func12, Try.ntmps12
  go_wp2_with fail
  refine (rnan_any _ _).mono ?_
  rintro e w' ⟨rfl, rfl⟩
  rw [t1]
  go_wp2_with fail
  go_ret
  refine ⟨rfl, lineAt_of ?_ ?_ ?_ ?_ ?_ ?_ ?_ ?_ ?_ ?_, ?_⟩
  all_goals go_light
  all_goals first | (go_simp; done) | (repeat (first | exact Only.refl _ _ | refine Only.drew ?_ | refine Only.drewN ?_ _ | refine Only.setCell ?_ (by exact rfl) _))
set_option maxHeartbeats 2000000 in
theorem radd_more_pnkk (b : Nat) (n : Int) (m s l h f d p m' r d2 p2 s' : Nat) (hf : f < 18446744073709551616) (ff : FK.rg f = f) (n0 : 1 ≤ n) (n1 : n < 1000) (h1 : FK.Step m f 4620693217682128896 d p m') (h2 : FK.Step s r 4616189618054758400 d2 p2 s') (hr : Op.negFloat .f64 d = r) (t1 : (fo f f != some .eq) = false) (t2 : (fo f 9218868437227405311 == some .gt) = false) (t3 : (fo f 0 == some .lt) = false) (t4 : (fo f 0 == some .eq) = false) (t5 : (fo d 0 == some .lt) = true) (t6 : (fo f l == some .lt) = false) (t7 : (fo f h == some .gt) = false) (w : World) (a : LineAt w b n m s l h) :
    Calls Try.prog 12 #[.pointer (some ⟨b, 0, none⟩), .float .f64 f] w fun e w' => e = .returned (.bool true) ∧ LineAt w' b (n + 1) m' s' l h ∧ Only b w w' := by
  subst hr
  obtain ⟨c0, c1, c2, c3, c4, f0, f1, f2, f3, f4⟩ := a
  have x1 := fun (W : World) => run_float_arith (P := Try.prog) W .sub 23 .f64 _ _ _ h1.sub
  have x2 := fun (W : World) => run_float_arith (P := Try.prog) W .quo 23 .f64 _ _ _ h1.div
  have x3 := fun (W : World) => run_float_arith (P := Try.prog) W .add 23 .f64 _ _ _ h1.add
  have x4 := fun (W : World) => run_float_arith (P := Try.prog) W .sub 23 .f64 _ _ _ h2.sub
  have x5 := fun (W : World) => run_float_arith (P := Try.prog) W .quo 23 .f64 _ _ _ h2.div
  have x6 := fun (W : World) => run_float_arith (P := Try.prog) W .add 23 .f64 _ _ _ h2.add
  have HF := Lib.hid hf
  have FF := Lib.hid ff
  clear hf ff h1 h2
  go_enter Try.func12, Try.ntmps12
  go_wp2_with fail
  refine (rnan_any _ _).mono ?_
  rintro e w' ⟨rfl, rfl⟩
  rw [t1]
  go_wp2_with fail
  go_ret
  refine ⟨rfl, lineAt_of ?_ ?_ ?_ ?_ ?_ ?_ ?_ ?_ ?_ ?_, ?_⟩
  all_goals go_light
  all_goals first | (go_simp; done) | (repeat (first | exact Only.refl _ _ | refine Only.drew ?_ | refine Only.drewN ?_ _ | refine Only.setCell ?_ (by exact rfl) _))
set_option maxHeartbeats 2000000 in
theorem radd_more_pplg (b : Nat) (n : Int) (m s l h f d p m' r d2 p2 s' : Nat) (hf : f < 18446744073709551616) (ff : FK.rg f = f) (n0 : 1 ≤ n) (n1 : n < 1000) (h1 : FK.Step m f 4620693217682128896 d p m') (h2 : FK.Step s r 4616189618054758400 d2 p2 s') (hr : d = r) (t1 : (fo f f != some .eq) = false) (t2 : (fo f 9218868437227405311 == some .gt) = false) (t3 : (fo f 0 == some .lt) = false) (t4 : (fo f 0 == some .eq) = false) (t5 : (fo d 0 == some .lt) = false) (t6 : (fo f l == some .lt) = true) (t7 : (fo f h == some .gt) = true) (w : World) (a : LineAt w b n m s l h) :
    Calls Try.prog 12 #[.pointer (some ⟨b, 0, none⟩), .float .f64 f] w fun e w' => e = .returned (.bool true) ∧ LineAt w' b (n + 1) m' s' f f ∧ Only b w w' := by
  subst hr
  obtain ⟨c0, c1, c2, c3, c4, f0, f1, f2, f3, f4⟩ := a
  have x1 := fun (W : World) => run_float_arith (P := Try.prog) W .sub 23 .f64 _ _ _ h1.sub
  have x2 := fun (W : World) => run_float_arith (P := Try.prog) W .quo 23 .f64 _ _ _ h1.div
  have x3 := fun (W : World) => run_float_arith (P := Try.prog) W .add 23 .f64 _ _ _ h1.add
  have x4 := fun (W : World) => run_float_arith (P := Try.prog) W .sub 23 .f64 _ _ _ h2.sub
  have x5 := fun (W : World) => run_float_arith (P := Try.prog) W .quo 23 .f64 _ _ _ h2.div
  have x6 := fun (W : World) => run_float_arith (P := Try.prog) W .add 23 .f64 _ _ _ h2.add
  have HF := Lib.hid hf
  have FF := Lib.hid ff
  clear hf ff h1 h2
  go_enter Try.func12, Try.ntmps12
  go_wp2_with fail
  refine (rnan_any _ _).mono ?_
  rintro e w' ⟨rfl, rfl⟩
  rw [t1]
  go_wp2_with fail
  go_ret
  refine ⟨rfl, lineAt_of ?_ ?_ ?_ ?_ ?_ ?_ ?_ ?_ ?_ ?_, ?_⟩
  all_goals go_light
  all_goals first | (go_simp; done) | (repeat (first | exact Only.refl _ _ | refine Only.drew ?_ | refine Only.drewN ?_ _ | refine Only.setCell ?_ (by exact rfl) _))
set_option maxHeartbeats 2000000 in
theorem radd_more_pplk (b : Nat) (n : Int) (m s l h f d p m' r d2 p2 s' : Nat) (hf : f < 18446744073709551616) (ff : FK.rg f = f) (n0 : 1 ≤ n) (n1 : n < 1000) (h1 : FK.Step m f 4620693217682128896 d p m') (h2 : FK.Step s r 4616189618054758400 d2 p2 s') (hr : d = r) (t1 : (fo f f != some .eq) = false) (t2 : (fo f 9218868437227405311 == some .gt) = false) (t3 : (fo f 0 == some .lt) = false) (t4 : (fo f 0 == some .eq) = false) (t5 : (fo d 0 == some .lt) = false) (t6 : (fo f l == some .lt) = true) (t7 : (fo f h == some .gt) = false) (w : World) (a : LineAt w b n m s l h) :
    Calls Try.prog 12 #[.pointer (some ⟨b, 0, none⟩), .float .f64 f] w fun e w' => e = .returned (.bool true) ∧ LineAt w' b (n + 1) m' s' f h ∧ Only b w w' := by
  subst hr
  obtain ⟨c0, c1, c2, c3, c4, f0, f1, f2, f3, f4⟩ := a
  have x1 := fun (W : World) => run_float_arith (P := Try.prog) W .sub 23 .f64 _ _ _ h1.sub
  have x2 := fun (W : World) => run_float_arith (P := Try.prog) W .quo 23 .f64 _ _ _ h1.div
  have x3 := fun (W : World) => run_float_arith (P := Try.prog) W .add 23 .f64 _ _ _ h1.add
  have x4 := fun (W : World) => run_float_arith (P := Try.prog) W .sub 23 .f64 _ _ _ h2.sub
  have x5 := fun (W : World) => run_float_arith (P := Try.prog) W .quo 23 .f64 _ _ _ h2.div
  have x6 := fun (W : World) => run_float_arith (P := Try.prog) W .add 23 .f64 _ _ _ h2.add
  have HF := Lib.hid hf
  have FF := Lib.hid ff
  clear hf ff h1 h2
  go_enter Try.func12, Try.ntmps12
  go_wp2_with fail
  refine (rnan_any _ _).mono ?_
  rintro e w' ⟨rfl, rfl⟩
  rw [t1]
  go_wp2_with fail
  go_ret
  refine ⟨rfl, lineAt_of ?_ ?_ ?_ ?_ ?_ ?_ ?_ ?_ ?_ ?_, ?_⟩
  all_goals go_light
  all_goals first | (go_simp; done) | (repeat (first | exact Only.refl _ _ | refine Only.drew ?_ | refine Only.drewN ?_ _ | refine Only.setCell ?_ (by exact rfl) _))
set_option maxHeartbeats 2000000 in
theorem radd_more_ppkg (b : Nat) (n : Int) (m s l h f d p m' r d2 p2 s' : Nat) (hf : f < 18446744073709551616) (ff : FK.rg f = f) (n0 : 1 ≤ n) (n1 : n < 1000) (h1 : FK.Step m f 4620693217682128896 d p m') (h2 : FK.Step s r 4616189618054758400 d2 p2 s') (hr : d = r) (t1 : (fo f f != some .eq) = false) (t2 : (fo f 9218868437227405311 == some .gt) = false) (t3 : (fo f 0 == some .lt) = false) (t4 : (fo f 0 == some .eq) = false) (t5 : (fo d 0 == some .lt) = false) (t6 : (fo f l == some .lt) = false) (t7 : (fo f h == some .gt) = true) (w : World) (a : LineAt w b n m s l h) :
    Calls Try.prog 12 #[.pointer (some ⟨b, 0, none⟩), .float .f64 f] w fun e w' => e = .returned (.bool true) ∧ LineAt w' b (n + 1) m' s' l f ∧ Only b w w' := by
  subst hr
  obtain ⟨c0, c1, c2, c3, c4, f0, f1, f2, f3, f4⟩ := a
  have x1 := fun (W : World) => run_float_arith (P := Try.prog) W .sub 23 .f64 _ _ _ h1.sub
  have x2 := fun (W : World) => run_float_arith (P := Try.prog) W .quo 23 .f64 _ _ _ h1.div
  have x3 := fun (W : World) => run_float_arith (P := Try.prog) W .add 23 .f64 _ _ _ h1.add
  have x4 := fun (W : World) => run_float_arith (P := Try.prog) W .sub 23 .f64 _ _ _ h2.sub
  have x5 := fun (W : World) => run_float_arith (P := Try.prog) W .quo 23 .f64 _ _ _ h2.div
  have x6 := fun (W : World) => run_float_arith (P := Try.prog) W .add 23 .f64 _ _ _ h2.add
  have HF := Lib.hid hf
  have FF := Lib.hid ff
  clear hf ff h1 h2
  go_enter Try.func12, Try.ntmps12
  go_wp2_with fail
  refine (rnan_any _ _).mono ?_
  rintro e w' ⟨rfl, rfl⟩
  rw [t1]
  go_wp2_with fail
  go_ret
  refine ⟨rfl, lineAt_of ?_ ?_ ?_ ?_ ?_ ?_ ?_ ?_ ?_ ?_, ?_⟩
  all_goals go_light
  all_goals first | (go_simp; done) | (repeat (first | exact Only.refl _ _ | refine Only.drew ?_ | refine Only.drewN ?_ _ | refine Only.setCell ?_ (by exact rfl) _))
set_option maxHeartbeats 2000000 in
theorem radd_more_ppkk (b : Nat) (n : Int) (m s l h f d p m' r d2 p2 s' : Nat) (hf : f < 18446744073709551616) (ff : FK.rg f = f) (n0 : 1 ≤ n) (n1 : n < 1000) (h1 : FK.Step m f 4620693217682128896 d p m') (h2 : FK.Step s r 4616189618054758400 d2 p2 s') (hr : d = r) (t1 : (fo f f != some .eq) = false) (t2 : (fo f 9218868437227405311 == some .gt) = false) (t3 : (fo f 0 == some .lt) = false) (t4 : (fo f 0 == some .eq) = false) (t5 : (fo d 0 == some .lt) = false) (t6 : (fo f l == some .lt) = false) (t7 : (fo f h == some .gt) = false) (w : World) (a : LineAt w b n m s l h) :
    Calls Try.prog 12 #[.pointer (some ⟨b, 0, none⟩), .float .f64 f] w fun e w' => e = .returned (.bool true) ∧ LineAt w' b (n + 1) m' s' l h ∧ Only b w w' := by
  subst hr
  obtain ⟨c0, c1, c2, c3, c4, f0, f1, f2, f3, f4⟩ := a
  have x1 := fun (W : World) => run_float_arith (P := Try.prog) W .sub 23 .f64 _ _ _ h1.sub
  have x2 := fun (W : World) => run_float_arith (P := Try.prog) W .quo 23 .f64 _ _ _ h1.div
  have x3 := fun (W : World) => run_float_arith (P := Try.prog) W .add 23 .f64 _ _ _ h1.add
  have x4 := fun (W : World) => run_float_arith (P := Try.prog) W .sub 23 .f64 _ _ _ h2.sub
  have x5 := fun (W : World) => run_float_arith (P := Try.prog) W .quo 23 .f64 _ _ _ h2.div
  have x6 := fun (W : World) => run_float_arith (P := Try.prog) W .add 23 .f64 _ _ _ h2.add
  have HF := Lib.hid hf
  have FF := Lib.hid ff
  clear hf ff h1 h2
  go_enter Try.func12, Try.ntmps12
  go_wp2_with fail
  refine (rnan_any _ _).mono ?_
  rintro e w' ⟨rfl, rfl⟩
  rw [t1]
  go_wp2_with fail
  go_ret
  refine ⟨rfl, lineAt_of ?_ ?_ ?_ ?_ ?_ ?_ ?_ ?_ ?_ ?_, ?_⟩
  all_goals go_light
  all_goals first | (go_simp; done) | (repeat (first | exact Only.refl _ _ | refine Only.drew ?_ | refine Only.drewN ?_ _ | refine Only.setCell ?_ (by exact rfl) _))
end Go.Proofs.Ytoefnagenooaiaa
