/-
  Stick: the reference's Axis and Same; the Go text of StickAsks returns true for every input.
-/
import Derived.Test.YtbgliebmdjjmaaaG
namespace Go.Proofs.Ytbgliebmdjjmaaa
set_option linter.unusedVariables false
open Go.ChangeShapes Go.WideShapes Go.ChangeAt Go.RowKit
attribute [local go_sem] run_neg_f64 bits_run

theorem rax_nan (f : Nat) (w : World) (hn : (fo f f != some .eq) = true) :
    Calls Try.prog 18 #[.float .f64 f] w fun e w' => e = .returned (.int .i8 (0)) ∧ w = w' := by
  go_enter Try.func18, Try.ntmps18
  go_wp2_with fail
  refine (risnan_any _ _).mono ?_
  rintro e w' ⟨rfl, rfl⟩
  rw [hn]
  go_wp2_with fail
  go_ret
  exact ⟨rfl, rfl⟩
theorem rax_dead (f : Nat) (w : World) (hn : (fo f f != some .eq) = false)(h3 : (fo f 13817043656772681728 == some .gt) = true)(h4 : (fo f 4593671619917905920 == some .lt) = true) :
    Calls Try.prog 18 #[.float .f64 f] w fun e w' => e = .returned (.int .i8 (0)) ∧ w = w' := by
  go_enter Try.func18, Try.ntmps18
  go_wp2_with fail
  refine (risnan_any _ _).mono ?_
  rintro e w' ⟨rfl, rfl⟩
  rw [hn]
  go_wp2_with fail
  go_ret
  exact ⟨rfl, rfl⟩
theorem rax_hi (f : Nat) (w : World) (hn : (fo f f != some .eq) = false)(h3 : (fo f 13817043656772681728 == some .gt) = true)(h4 : (fo f 4593671619917905920 == some .lt) = false)(h1 : (fo f 4607182418800017408 == some .gt || fo f 4607182418800017408 == some .eq) = true) :
    Calls Try.prog 18 #[.float .f64 f] w fun e w' => e = .returned (.int .i8 (127)) ∧ w = w' := by
  go_enter Try.func18, Try.ntmps18
  go_wp2_with fail
  refine (risnan_any _ _).mono ?_
  rintro e w' ⟨rfl, rfl⟩
  rw [hn]
  go_wp2_with fail
  go_ret
  exact ⟨rfl, rfl⟩
theorem rax_lo (f : Nat) (w : World) (hn : (fo f f != some .eq) = false)(h3 : (fo f 13817043656772681728 == some .gt) = false)(h1 : (fo f 4607182418800017408 == some .gt || fo f 4607182418800017408 == some .eq) = false)(h2 : (fo f 13830554455654793216 == some .lt || fo f 13830554455654793216 == some .eq) = true) :
    Calls Try.prog 18 #[.float .f64 f] w fun e w' => e = .returned (.int .i8 (-127)) ∧ w = w' := by
  go_enter Try.func18, Try.ntmps18
  go_wp2_with fail
  refine (risnan_any _ _).mono ?_
  rintro e w' ⟨rfl, rfl⟩
  rw [hn]
  go_wp2_with fail
  go_ret
  exact ⟨rfl, rfl⟩
theorem rax_p (f : Nat) (w : World) (v u : Nat) (r : Int) (hm : floatBits .mul .f64 f 4638637247447433216 = some v) (ha : floatBits .add .f64 v 4602678819172646912 = some u) (hc : floatToIntVal .f64 u .i8 = some r)(hn : (fo f f != some .eq) = false)(h3 : (fo f 13817043656772681728 == some .gt) = true)(h4 : (fo f 4593671619917905920 == some .lt) = false)(h1 : (fo f 4607182418800017408 == some .gt || fo f 4607182418800017408 == some .eq) = false)(h2 : (fo f 13830554455654793216 == some .lt || fo f 13830554455654793216 == some .eq) = false)(h5 : (fo f 0 == some .gt) = true) :
    Calls Try.prog 18 #[.float .f64 f] w fun e w' => e = .returned (.int .i8 (r)) ∧ w = w' := by
  have x1 := fun (W : World) => run_float_arith (P := Try.prog) W .mul 23 .f64 f _ v hm
  have x2 := fun (W : World) => run_float_arith (P := Try.prog) W .add 23 .f64 v _ u ha
  have x3 := fun (W : World) => run_convert_float_int (P := Try.prog) W 23 22 .f64 .i8 u r (by rw [Try.underlying23]; rfl) Try.underlying22 hc
  have HM := Lib.hid hm
  have HA := Lib.hid ha
  have HC := Lib.hid hc
  clear hm ha hc
  go_enter Try.func18, Try.ntmps18
  go_wp2_with fail
  refine (risnan_any _ _).mono ?_
  rintro e w' ⟨rfl, rfl⟩
  rw [hn]
  go_wp2_with fail
  go_ret
  exact ⟨rfl, rfl⟩
theorem rax_n (f : Nat) (w : World) (v u : Nat) (r : Int) (hm : floatBits .mul .f64 f 4638637247447433216 = some v) (ha : floatBits .sub .f64 v 4602678819172646912 = some u) (hc : floatToIntVal .f64 u .i8 = some r)(hn : (fo f f != some .eq) = false)(h3 : (fo f 13817043656772681728 == some .gt) = false)(h1 : (fo f 4607182418800017408 == some .gt || fo f 4607182418800017408 == some .eq) = false)(h2 : (fo f 13830554455654793216 == some .lt || fo f 13830554455654793216 == some .eq) = false)(h5 : (fo f 0 == some .gt) = false) :
    Calls Try.prog 18 #[.float .f64 f] w fun e w' => e = .returned (.int .i8 (r)) ∧ w = w' := by
  have x1 := fun (W : World) => run_float_arith (P := Try.prog) W .mul 23 .f64 f _ v hm
  have x2 := fun (W : World) => run_float_arith (P := Try.prog) W .sub 23 .f64 v _ u ha
  have x3 := fun (W : World) => run_convert_float_int (P := Try.prog) W 23 22 .f64 .i8 u r (by rw [Try.underlying23]; rfl) Try.underlying22 hc
  have HM := Lib.hid hm
  have HA := Lib.hid ha
  have HC := Lib.hid hc
  clear hm ha hc
  go_enter Try.func18, Try.ntmps18
  go_wp2_with fail
  refine (risnan_any _ _).mono ?_
  rintro e w' ⟨rfl, rfl⟩
  rw [hn]
  go_wp2_with fail
  go_ret
  exact ⟨rfl, rfl⟩

theorem still_below {f : Nat} {a : Array Value} {r : Ending} {w : World} (h : Calls Try.prog f a w fun e w' => e = r ∧ w = w') :
    Calls Try.prog f a w fun e w' => e = r ∧ Below w.heap.size w w' := h.mono fun _ _ ⟨h, e⟩ => ⟨h, e ▸ Below.refl _ _⟩
theorem raxis_any (f : Nat) (w : World) :
    Calls Try.prog 18 #[.float .f64 f] w fun e w' => e = .returned (.int .i8 (axisF f)) ∧ w = w' := by
  unfold axisF
  by_cases hn : 9218868437227405312 < FK.rg f
  · rw [if_pos hn]
    refine rax_nan f w ?_
    show (Ieee.double.order f f != some .eq) = true
    unfold Ieee.Format.order
    rw [FK.read_nan f hn]; rfl
  rw [if_neg hn]
  obtain ⟨t0, t1, t2, t3, t4, t5, t6, t7⟩ := tests f (by omega)
  have hr1 : FK.r1 = 4607182418800017408 := rfl
  have hr8 : FK.r8 = 4593671619917905920 := rfl
  have hs : FK.sr f = if FK.sg f then -(FK.rg f : Int) else FK.rg f := rfl
  by_cases h1 : FK.r1 ≤ FK.rg f
  · rw [if_pos h1]
    cases hsg : FK.sg f
    · rw [hsg] at hs
      simp only [Bool.false_eq_true, if_false] at hs ⊢
      exact rax_hi f w t0 (by rw [t5]; simp; omega) (by rw [t6]; simp; omega) (by rw [t3]; simp; omega)
    · rw [hsg] at hs
      simp only [if_true] at hs ⊢
      exact rax_lo f w t0 (by rw [t5]; simp; omega) (by rw [t3]; simp; omega) (by rw [t4]; simp; omega)
  rw [if_neg h1]
  by_cases h2 : FK.rg f < FK.r8
  · rw [if_pos h2]
    exact rax_dead f w t0 (by rw [t5]; simp; cases hsg : FK.sg f <;> rw [hsg] at hs <;> simp at hs <;> omega) (by rw [t6]; simp; cases hsg : FK.sg f <;> rw [hsg] at hs <;> simp at hs <;> omega)
  · rw [if_neg h2]
    obtain ⟨c1, c2, c3, c4⟩ := FK.axis_core f (by omega) (by omega)
    cases hsg : FK.sg f
    · rw [hsg] at hs c1 c2 c3 c4
      simp only [Bool.false_eq_true, if_false] at hs c4 ⊢
      exact rax_p f w _ _ _ c1 c2 c4 t0 (by rw [t5]; simp; omega) (by rw [t6]; simp; omega) (by rw [t3]; simp; omega) (by rw [t4]; simp; omega) (by rw [t7]; simp; omega)
    · rw [hsg] at hs c1 c2 c3 c4
      simp only [if_true] at hs c4 ⊢
      exact rax_n f w _ _ _ c1 (c3 rfl) c4 t0 (by rw [t5]; simp; omega) (by rw [t3]; simp; omega) (by rw [t4]; simp; omega) (by rw [t7]; simp; omega)

theorem same_any (a : Nat) (w : World) :
    Calls Try.prog 19 #[.float .f64 a, .float .f64 a] w fun e w' => e = .returned (.bool true) ∧ w = w' := by
  go_enter Try.func19, Try.ntmps19
  cases h : (fo a a != some .eq) with
  | true =>
    go_wp2_with fail
    refine (risnan_any _ _).mono ?_
    rintro e w' ⟨rfl, rfl⟩
    rw [h]
    go_wp2_with fail
    refine (risnan_any _ _).mono ?_
    rintro e w' ⟨rfl, rfl⟩
    rw [h]
    go_wp2_with fail
    go_ret
    exact ⟨rfl, rfl⟩
  | false =>
    go_wp2_with fail
    refine (risnan_any _ _).mono ?_
    rintro e w' ⟨rfl, rfl⟩
    rw [h]
    go_wp2_with fail
    go_ret
    exact ⟨rfl, rfl⟩
set_option maxHeartbeats 2000000 in
theorem asks_walk (x y : Nat) (b ix iy ib kx ky kb : Int) (hx : x < 18446744073709551616) (hy : y < 18446744073709551616) (x0 : -128 ≤ ix) (x1 : ix ≤ 127) (y0 : -128 ≤ iy) (y1 : iy ≤ 127) (x0' : -128 ≤ kx) (x1' : kx ≤ 127) (y0' : -128 ≤ ky) (y1' : ky ≤ 127) (w : World) :
    Calls Try.prog 8 #[.float .f64 x, .float .f64 y, .int .u8 b, .agg #[.int .i8 ix, .int .i8 iy, .int .u8 ib], .agg #[.int .i8 kx, .int .i8 ky, .int .u8 kb]] w fun e w' => e = .returned (.bool true) ∧ Below w.heap.size w w' := by
  have HX := Lib.hid hx
  have HY := Lib.hid hy
  clear hx hy
  go_enter Try.func8, Try.ntmps8
  go_wp2_with fail
  refine (read_any _ _ _ HX.out HY.out _).mono ?_
  rintro e w' ⟨rfl, rfl⟩
  generalize hp : axisF x = p at *
  generalize hq : axisF y = q at *
  have HP := Lib.hid hp
  have HQ := Lib.hid hq
  clear hp hq
  go_wp2_with fail
  have c0 : ((((w.alloc (.cells #[.int .i8 ix, .int .i8 iy, .int .u8 ib] 36)).alloc (.cells #[.int .i8 kx, .int .i8 ky, .int .u8 kb] 36)).alloc (.cells #[.int .i8 p, .int .i8 q, .int .u8 b] 36)).alloc (.cells #[.int .i8 p, .int .i8 q, .int .u8 b] 36)).cell? ⟨w.heap.size, 0, none⟩ = some (.int .i8 ix) := by go_simp
  have c1 : ((((w.alloc (.cells #[.int .i8 ix, .int .i8 iy, .int .u8 ib] 36)).alloc (.cells #[.int .i8 kx, .int .i8 ky, .int .u8 kb] 36)).alloc (.cells #[.int .i8 p, .int .i8 q, .int .u8 b] 36)).alloc (.cells #[.int .i8 p, .int .i8 q, .int .u8 b] 36)).cell? ⟨w.heap.size, 1, none⟩ = some (.int .i8 iy) := by go_simp
  have c2 : ((((w.alloc (.cells #[.int .i8 ix, .int .i8 iy, .int .u8 ib] 36)).alloc (.cells #[.int .i8 kx, .int .i8 ky, .int .u8 kb] 36)).alloc (.cells #[.int .i8 p, .int .i8 q, .int .u8 b] 36)).alloc (.cells #[.int .i8 p, .int .i8 q, .int .u8 b] 36)).cell? ⟨w.heap.size, 2, none⟩ = some (.int .u8 ib) := by go_simp
  have c3 : ((((w.alloc (.cells #[.int .i8 ix, .int .i8 iy, .int .u8 ib] 36)).alloc (.cells #[.int .i8 kx, .int .i8 ky, .int .u8 kb] 36)).alloc (.cells #[.int .i8 p, .int .i8 q, .int .u8 b] 36)).alloc (.cells #[.int .i8 p, .int .i8 q, .int .u8 b] 36)).cell? ⟨w.heap.size + 1, 0, none⟩ = some (.int .i8 kx) := by go_simp
  have c4 : ((((w.alloc (.cells #[.int .i8 ix, .int .i8 iy, .int .u8 ib] 36)).alloc (.cells #[.int .i8 kx, .int .i8 ky, .int .u8 kb] 36)).alloc (.cells #[.int .i8 p, .int .i8 q, .int .u8 b] 36)).alloc (.cells #[.int .i8 p, .int .i8 q, .int .u8 b] 36)).cell? ⟨w.heap.size + 1, 1, none⟩ = some (.int .i8 ky) := by go_simp
  have c5 : ((((w.alloc (.cells #[.int .i8 ix, .int .i8 iy, .int .u8 ib] 36)).alloc (.cells #[.int .i8 kx, .int .i8 ky, .int .u8 kb] 36)).alloc (.cells #[.int .i8 p, .int .i8 q, .int .u8 b] 36)).alloc (.cells #[.int .i8 p, .int .i8 q, .int .u8 b] 36)).cell? ⟨w.heap.size + 1, 2, none⟩ = some (.int .u8 kb) := by go_simp
  have c6 : ((((w.alloc (.cells #[.int .i8 ix, .int .i8 iy, .int .u8 ib] 36)).alloc (.cells #[.int .i8 kx, .int .i8 ky, .int .u8 kb] 36)).alloc (.cells #[.int .i8 p, .int .i8 q, .int .u8 b] 36)).alloc (.cells #[.int .i8 p, .int .i8 q, .int .u8 b] 36)).cell? ⟨w.heap.size + 1 + 1 + 1, 0, none⟩ = some (.int .i8 p) := by go_simp
  have c7 : ((((w.alloc (.cells #[.int .i8 ix, .int .i8 iy, .int .u8 ib] 36)).alloc (.cells #[.int .i8 kx, .int .i8 ky, .int .u8 kb] 36)).alloc (.cells #[.int .i8 p, .int .i8 q, .int .u8 b] 36)).alloc (.cells #[.int .i8 p, .int .i8 q, .int .u8 b] 36)).cell? ⟨w.heap.size + 1 + 1 + 1, 1, none⟩ = some (.int .i8 q) := by go_simp
  have c8 : ((((w.alloc (.cells #[.int .i8 ix, .int .i8 iy, .int .u8 ib] 36)).alloc (.cells #[.int .i8 kx, .int .i8 ky, .int .u8 kb] 36)).alloc (.cells #[.int .i8 p, .int .i8 q, .int .u8 b] 36)).alloc (.cells #[.int .i8 p, .int .i8 q, .int .u8 b] 36)).cell? ⟨w.heap.size + 1 + 1 + 1, 2, none⟩ = some (.int .u8 b) := by go_simp
  have hB : Below w.heap.size w ((((w.alloc (.cells #[.int .i8 ix, .int .i8 iy, .int .u8 ib] 36)).alloc (.cells #[.int .i8 kx, .int .i8 ky, .int .u8 kb] 36)).alloc (.cells #[.int .i8 p, .int .i8 q, .int .u8 b] 36)).alloc (.cells #[.int .i8 p, .int .i8 q, .int .u8 b] 36)) := ((((Below.refl _ _).alloc (Nat.le_refl _) _).alloc (by simp) _).alloc (by simp; omega) _).alloc (by simp; omega) _
  generalize ((((w.alloc _).alloc _).alloc _).alloc _) = w1 at c0 c1 c2 c3 c4 c5 c6 c7 c8 hB ⊢
  have hsz := hB.size
  have HB := Lib.hid hB
  have HSZ := Lib.hid hsz
  have k0 := cell_regrown c0
  have k1 := cell_regrown c1
  have k2 := cell_regrown c2
  have k3 := cell_regrown c3
  have k4 := cell_regrown c4
  have k5 := cell_regrown c5
  have k6 := cell_regrown c6
  have k7 := cell_regrown c7
  have k8 := cell_regrown c8
  clear c0 c1 c2 c3 c4 c5 c6 c7 c8 hB hsz
  have dT : ∀ d os, Calls Try.prog 12 #[] (Sort.grow (redrawn w1 d) os) fun e w'' => e = .returned (.bool (true)) ∧ ∃ p : Regrown, w'' = Sort.grow (redrawn w1 p.d) p.os := fun d os => Calls.regrown_of (told_law _)
  have dA : ∀ d os, Calls Try.prog 11 #[.float .f64 x] (Sort.grow (redrawn w1 d) os) fun e w'' => e = .returned (.int .i8 (p)) ∧ ∃ p : Regrown, w'' = Sort.grow (redrawn w1 p.d) p.os := fun d os => Calls.regrown_of (HP.out ▸ still_below (axis_any x HX.out _))
  have dB : ∀ d os, Calls Try.prog 18 #[.float .f64 x] (Sort.grow (redrawn w1 d) os) fun e w'' => e = .returned (.int .i8 (p)) ∧ ∃ p : Regrown, w'' = Sort.grow (redrawn w1 p.d) p.os := fun d os => Calls.regrown_of (HP.out ▸ still_below (raxis_any x _))
  have dC : ∀ d os, Calls Try.prog 18 #[.float .f64 y] (Sort.grow (redrawn w1 d) os) fun e w'' => e = .returned (.int .i8 (q)) ∧ ∃ p : Regrown, w'' = Sort.grow (redrawn w1 p.d) p.os := fun d os => Calls.regrown_of (HQ.out ▸ still_below (raxis_any y _))
  have dD : ∀ d os, Calls Try.prog 10 #[.int .i8 ix] (Sort.grow (redrawn w1 d) os) fun e w'' => e = .returned (.float .f64 (valueF ix)) ∧ ∃ p : Regrown, w'' = Sort.grow (redrawn w1 p.d) p.os := fun d os => Calls.regrown_of (still_below (value_any ix x0 x1 _))
  have dE : ∀ d os, Calls Try.prog 20 #[.int .i8 ix] (Sort.grow (redrawn w1 d) os) fun e w'' => e = .returned (.float .f64 (valueF ix)) ∧ ∃ p : Regrown, w'' = Sort.grow (redrawn w1 p.d) p.os := fun d os => Calls.regrown_of (still_below (rvalue_any ix x0 x1 _))
  have dF : ∀ d os, Calls Try.prog 19 #[.float .f64 (valueF ix), .float .f64 (valueF ix)] (Sort.grow (redrawn w1 d) os) fun e w'' => e = .returned (.bool (true)) ∧ ∃ p : Regrown, w'' = Sort.grow (redrawn w1 p.d) p.os := fun d os => Calls.regrown_of (still_below (same_any _ _))
  have dG : ∀ d os, Calls Try.prog 16 #[.agg #[.int .i8 ix, .int .i8 iy, .int .u8 ib]] (Sort.grow (redrawn w1 d) os) fun e w'' => e = .returned (.bool (mayB ix iy)) ∧ ∃ p : Regrown, w'' = Sort.grow (redrawn w1 p.d) p.os := fun d os => Calls.regrown_of (may_any ix iy ib _)
  have dH : ∀ d os, Calls Try.prog 21 #[.agg #[.int .i8 ix, .int .i8 iy, .int .u8 ib]] (Sort.grow (redrawn w1 d) os) fun e w'' => e = .returned (.bool (mayB ix iy)) ∧ ∃ p : Regrown, w'' = Sort.grow (redrawn w1 p.d) p.os := fun d os => Calls.regrown_of (rmay_any ix iy ib x0 y0 _)
  have dI : ∀ d os, Calls Try.prog 15 #[.agg #[.int .i8 ix, .int .i8 iy, .int .u8 ib], .agg #[.int .i8 kx, .int .i8 ky, .int .u8 kb]] (Sort.grow (redrawn w1 d) os) fun e w'' => e = .returned (.bool (nearB ix iy ib kx ky kb)) ∧ ∃ p : Regrown, w'' = Sort.grow (redrawn w1 p.d) p.os := fun d os => Calls.regrown_of (near_any _ _ _ _ _ _ x0 x1 y0 y1 x0' x1' y0' y1' _)
  have dJ : ∀ d os, Calls Try.prog 22 #[.agg #[.int .i8 ix, .int .i8 iy, .int .u8 ib], .agg #[.int .i8 kx, .int .i8 ky, .int .u8 kb]] (Sort.grow (redrawn w1 d) os) fun e w'' => e = .returned (.bool (nearB ix iy ib kx ky kb)) ∧ ∃ p : Regrown, w'' = Sort.grow (redrawn w1 p.d) p.os := fun d os => Calls.regrown_of (rnear_any _ _ _ _ _ _ x0 x1 y0 y1 x0' x1' y0' y1' _)
  have DT := Lib.hid dT
  have DA := Lib.hid dA
  have DB := Lib.hid dB
  have DC := Lib.hid dC
  have DD := Lib.hid dD
  have DE := Lib.hid dE
  have DF := Lib.hid dF
  have DG := Lib.hid dG
  have DH := Lib.hid dH
  have DI := Lib.hid dI
  have DJ := Lib.hid dJ
  clear dT dA dB dC dD dE dF dG dH dI dJ
  refine wp_region_quiet_below (by kernel_rfl) (by kernel_rfl) ?_
  repeat (quiet_step (first | with_reducible exact DT.out _ _ | with_reducible exact DA.out _ _ | with_reducible exact DB.out _ _ | with_reducible exact DC.out _ _ | with_reducible exact DD.out _ _ | with_reducible exact DE.out _ _ | with_reducible exact DF.out _ _ | with_reducible exact DG.out _ _ | with_reducible exact DH.out _ _ | with_reducible exact DI.out _ _ | with_reducible exact DJ.out _ _))
  refine wpQuiet_nil ?_
  intro _ hw'
  obtain ⟨⟨dq, osq⟩, hw''⟩ := hw'
  subst hw''
  go_wp2
  go_ret
  exact ⟨ret_bool (by simp), below_of_regrown HB.out HSZ.out _ _⟩

theorem law_StickAsks (a0 a1 : Nat) (a2 : Int) (v3 v4 : Value) (w0 : (Lit.float .f64 a0).wf = true) (w1 : (Lit.float .f64 a1).wf = true) (w2 : (Lit.int .u8 a2).wf = true) (w : World) (w3 : IsInput w v3) (w4 : IsInput w v4) :
    Calls Try.prog 8 #[.float .f64 a0, .float .f64 a1, .int .u8 a2, v3, v4] w fun e w' => e = .returned (.bool true) ∧ Below w.heap.size w w' := by
  obtain ⟨x, y, b, rfl, ⟨x0, x1⟩, ⟨y0, y1⟩, b0, b1⟩ := w3
  obtain ⟨x', y', b', rfl, ⟨x0', x1'⟩, ⟨y0', y1'⟩, b0', b1'⟩ := w4
  exact asks_walk a0 a1 a2 x y b x' y' b' (f64_bd' w0) (f64_bd' w1) x0 x1 y0 y1 x0' x1' y0' y1' w
end Go.Proofs.Ytbgliebmdjjmaaa
