/-
  Stick: the contracts of package stick's functions and of the reference's: what each call returns, for every input.
-/
import Derived.Test.YtbgliebmdjjmaaaRows
import Derived.Test.YtbgliebmdjjmaaaK7
import Derived.WalkKit
import Derived.ProofKit
import Derived.OpenShut
import Derived.Outline
import Derived.Deep.QuietTactic
import Derived.BigQuiet
import Derived.Deep.RegionWith
import Derived.Deep.Light
import Derived.Lib.Hide
import Derived.WalkLawsBesides
import Derived.Laws.FloatArith
import Derived.Laws.Externs
namespace Go.Proofs.Ytbgliebmdjjmaaa
set_option linter.unusedVariables false
open Go.ChangeShapes Go.WideShapes Go.ChangeAt Go.RowKit

theorem ret_bool {a b : Bool} (h : a = b) : Ending.returned (.bool a) = .returned (.bool b) := by rw [h]
theorem ret_int {k : IntKind} {a b : Int} (h : a = b) : Ending.returned (.int k a) = .returned (.int k b) := by rw [h]
theorem ret_f {a b : Nat} (h : a = b) : Ending.returned (.float .f64 a) = .returned (.float .f64 b) := by rw [h]

abbrev fo (a b : Nat) : Option Ordering := FloatKind.f64.format.order a b
theorem run_neg_f64 (b : Nat) : Op.unary UnOp.neg (Value.float .f64 b) = pure (.float .f64 (Op.negFloat .f64 b)) := rfl
attribute [local go_sem] run_neg_f64
theorem frombits_run (n : Int) (w : World) : (callFunc 26 #[.int .u64 n]).run Try.prog w = .ok (.value (.float .f64 n.toNat)) w := by
  rw [run_callFunc_extern (f := 26) (fn := Try.f26) (e := Extern.MathFloatBits.float64frombits) (by kernel_rfl) (by kernel_rfl) (by kernel_rfl) (by kernel_rfl) (by kernel_rfl)]
  rfl
attribute [local go_sem] frombits_run
theorem bits_run (n : Nat) (w : World) : (callFunc 29 #[.float .f64 n]).run Try.prog w = .ok (.value (.int .u64 n)) w := by
  rw [run_callFunc_extern (f := 29) (fn := Try.f29) (e := Extern.MathFloatBits.float64bits) (by kernel_rfl) (by kernel_rfl) (by kernel_rfl) (by kernel_rfl) (by kernel_rfl)]
  rfl
attribute [local go_sem] bits_run

theorem isnan_any (a : Nat) (w : World) :
    Calls Try.prog 23 #[.float .f64 a] w fun e w' => e = .returned (.bool (fo a a != some .eq)) ∧ w = w' := by
  go_enter Try.func23, Try.ntmps23
  go_wp2
  go_ret
  exact ⟨rfl, rfl⟩
theorem risnan_any (a : Nat) (w : World) :
    Calls Try.prog 28 #[.float .f64 a] w fun e w' => e = .returned (.bool (fo a a != some .eq)) ∧ w = w' := by
  go_enter Try.func28, Try.ntmps28
  go_wp2
  go_ret
  exact ⟨rfl, rfl⟩
theorem isinf_pos (a : Nat) (w : World) :
    Calls Try.prog 24 #[.float .f64 a, .int .i64 1] w fun e w' => e = .returned (.bool (fo a 9218868437227405311 == some .gt)) ∧ w = w' := by
  go_enter Try.func24, Try.ntmps24
  go_wp2
  go_ret
  exact ⟨rfl, rfl⟩
theorem isinf_neg (a : Nat) (w : World) :
    Calls Try.prog 24 #[.float .f64 a, .int .i64 (-1)] w fun e w' => e = .returned (.bool (fo (Op.negFloat .f64 a) 9218868437227405311 == some .gt)) ∧ w = w' := by
  go_enter Try.func24, Try.ntmps24
  go_wp2
  go_ret
  exact ⟨rfl, rfl⟩
theorem inf_pos (w : World) :
    Calls Try.prog 14 #[.int .i64 1] w fun e w' => e = .returned (.float .f64 9218868437227405312) ∧ w = w' := by
  go_enter Try.func14, Try.ntmps14
  go_wp2
  go_ret
  exact ⟨rfl, rfl⟩
theorem nan_val (w : World) :
    Calls Try.prog 13 #[] w fun e w' => e = .returned (.float .f64 9221120237041090561) ∧ w = w' := by
  go_enter Try.func13, Try.ntmps13
  go_wp2
  go_ret
  exact ⟨rfl, rfl⟩

theorem u64_and (f : Nat) (hf : f < 18446744073709551616) : bits BinOp.and IntKind.u64 (f : Int) 9223372036854775808 = if FK.sg f then 9223372036854775808 else 0 := by
  have h := (bits_nat .u64 64 (by decide) (fun n h0 h1 => by simp [IntKind.wrap, IntKind.bits, IntKind.signed]; omega) f 9223372036854775808 (by omega) (by decide)).1
  have e : ((9223372036854775808 : Nat) : Int) = 9223372036854775808 := rfl
  rw [e] at h
  rw [h]
  have e2 : (9223372036854775808 : Nat) = 2 ^ 63 := by decide
  have h2 : FK.sg f = f.testBit 63 := by
    rw [Nat.testBit_eq_decide_div_mod_eq]
    unfold FK.sg
    rw [← e2]
    by_cases hh : f / 9223372036854775808 % 2 = 1 <;> simp [hh]
  rw [e2, h2]
  cases hb : f.testBit 63 with
  | true =>
    have : f &&& 2 ^ 63 = 2 ^ 63 := by
      apply Nat.eq_of_testBit_eq; intro k
      rw [Nat.testBit_and, Nat.testBit_two_pow]
      by_cases hk : 63 = k
      · subst hk; simp [hb]
      · simp [hk]
    rw [this]; rfl
  | false =>
    have : f &&& 2 ^ 63 = 0 := by
      apply Nat.eq_of_testBit_eq; intro k
      rw [Nat.testBit_and, Nat.testBit_two_pow]
      by_cases hk : 63 = k
      · subst hk; simp [hb]
      · simp [hk]
    rw [this]; rfl

theorem copysign_any (f : Nat) (hf : f < 18446744073709551616) (w : World) :
    Calls Try.prog 25 #[.float .f64 4602678819172646912, .float .f64 f] w fun e w' => e = .returned (.float .f64 (FK.mkw (FK.sg f) FK.rh)) ∧ w = w' := by
  have ha := u64_and f hf
  have hv : (bits BinOp.or IntKind.u64 (bits BinOp.andNot IntKind.u64 4602678819172646912 9223372036854775808) (bits BinOp.and IntKind.u64 (f : Int) 9223372036854775808)).toNat = FK.mkw (FK.sg f) FK.rh := by
    rw [ha]
    cases FK.sg f <;> decide
  have HV := Lib.hid hv
  clear ha hv
  go_enter Try.func25, Try.ntmps25
  go_wp2
  go_ret
  exact ⟨ret_f HV.out, rfl⟩

def axisF (f : Nat) : Int :=
  if 9218868437227405312 < FK.rg f then 0 else if FK.r1 ≤ FK.rg f then (if FK.sg f then -127 else 127) else if FK.rg f < FK.r8 then 0
  else if FK.sg f then -(FK.A (FK.rg f) : Int) else FK.A (FK.rg f)

theorem axis_lo (f : Nat) : -127 ≤ axisF f ∧ axisF f ≤ 127 := by
  unfold axisF
  by_cases h0 : 9218868437227405312 < FK.rg f
  · rw [if_pos h0]; omega
  rw [if_neg h0]
  by_cases h1 : FK.r1 ≤ FK.rg f
  · rw [if_pos h1]; split <;> omega
  rw [if_neg h1]
  by_cases h2 : FK.rg f < FK.r8
  · rw [if_pos h2]; omega
  rw [if_neg h2]
  have := FK.A_bd (r := FK.rg f) (by omega) (by omega)
  split <;> omega

theorem cmp_ge (x y : Int) : (some (compare x y) == some Ordering.gt || some (compare x y) == some Ordering.eq) = decide (y ≤ x) := by
  by_cases h : x < y
  · rw [FK.cmp_lt h]; simp; omega
  · by_cases h2 : x = y
    · rw [FK.cmp_eq h2]; simp; omega
    · rw [FK.cmp_gt (by omega)]; simp; omega
theorem cmp_le (x y : Int) : (some (compare x y) == some Ordering.lt || some (compare x y) == some Ordering.eq) = decide (x ≤ y) := by
  by_cases h : x < y
  · rw [FK.cmp_lt h]; simp; omega
  · by_cases h2 : x = y
    · rw [FK.cmp_eq h2]; simp; omega
    · rw [FK.cmp_gt (by omega)]; simp; omega

/-- The tests of a float that is a number or an infinity. -/
theorem tests (f : Nat) (h : FK.rg f ≤ 9218868437227405312) :
    (fo f f != some .eq) = false ∧
    (fo f 9218868437227405311 == some .gt) = decide (9218868437227405311 < FK.sr f) ∧
    (fo (Op.negFloat .f64 f) 9218868437227405311 == some .gt) = decide (9218868437227405311 < -FK.sr f) ∧
    (fo f 4607182418800017408 == some .gt || fo f 4607182418800017408 == some .eq) = decide (4607182418800017408 ≤ FK.sr f) ∧
    (fo f 13830554455654793216 == some .lt || fo f 13830554455654793216 == some .eq) = decide (FK.sr f ≤ -4607182418800017408) ∧
    (fo f 13817043656772681728 == some .gt) = decide (-4593671619917905920 < FK.sr f) ∧
    (fo f 4593671619917905920 == some .lt) = decide (FK.sr f < 4593671619917905920) ∧
    (fo f 0 == some .gt) = decide (0 < FK.sr f) := by
  have e0 : FK.sr 9218868437227405311 = 9218868437227405311 := by decide
  have e1 : FK.sr 4607182418800017408 = 4607182418800017408 := by decide
  have e2 : FK.sr 13830554455654793216 = -4607182418800017408 := by decide
  have e3 : FK.sr 13817043656772681728 = -4593671619917905920 := by decide
  have e4 : FK.sr 4593671619917905920 = 4593671619917905920 := by decide
  have e5 : FK.sr 0 = 0 := by decide
  refine ⟨FK.eq_self f h, ?_, ?_, ?_, ?_, ?_, ?_, ?_⟩
  · rw [← e0]; exact FK.gt_iff h (by decide)
  · rw [← FK.sr_neg]
    have := FK.gt_iff (x := Op.negFloat .f64 f) (y := 9218868437227405311) (by rw [FK.rg_neg]; exact h) (by decide)
    rw [e0] at this; exact this
  · have : fo f 4607182418800017408 = _ := FK.order_eq f 4607182418800017408 h (by decide)
    rw [this, cmp_ge, e1]
  · have : fo f 13830554455654793216 = _ := FK.order_eq f 13830554455654793216 h (by decide)
    rw [this, cmp_le, e2]
  · rw [← e3]; exact FK.gt_iff h (by decide)
  · rw [← e4]; exact FK.lt_iff h (by decide)
  · rw [← e5]; exact FK.gt_iff h (by decide)

theorem ax_nan (f : Nat) (w : World) (hn : (fo f f != some .eq) = true) :
    Calls Try.prog 11 #[.float .f64 f] w fun e w' => e = .returned (.int .i8 (0)) ∧ w = w' := by
  go_enter Try.func11, Try.ntmps11
  go_wp2_with fail
  refine (isnan_any _ _).mono ?_
  rintro e w' ⟨rfl, rfl⟩
  rw [hn]
  go_wp2_with fail
  go_ret
  exact ⟨rfl, rfl⟩
theorem ax_hi1 (f : Nat) (w : World) (hn : (fo f f != some .eq) = false)(hp : (fo f 9218868437227405311 == some .gt) = true) :
    Calls Try.prog 11 #[.float .f64 f] w fun e w' => e = .returned (.int .i8 (127)) ∧ w = w' := by
  go_enter Try.func11, Try.ntmps11
  go_wp2_with fail
  refine (isnan_any _ _).mono ?_
  rintro e w' ⟨rfl, rfl⟩
  rw [hn]
  go_wp2_with fail
  refine (isinf_pos _ _).mono ?_
  rintro e w' ⟨rfl, rfl⟩
  rw [hp]
  go_wp2_with fail
  go_ret
  exact ⟨rfl, rfl⟩
theorem ax_hi2 (f : Nat) (w : World) (hn : (fo f f != some .eq) = false)(hp : (fo f 9218868437227405311 == some .gt) = false)(h1 : (fo f 4607182418800017408 == some .gt || fo f 4607182418800017408 == some .eq) = true) :
    Calls Try.prog 11 #[.float .f64 f] w fun e w' => e = .returned (.int .i8 (127)) ∧ w = w' := by
  go_enter Try.func11, Try.ntmps11
  go_wp2_with fail
  refine (isnan_any _ _).mono ?_
  rintro e w' ⟨rfl, rfl⟩
  rw [hn]
  go_wp2_with fail
  refine (isinf_pos _ _).mono ?_
  rintro e w' ⟨rfl, rfl⟩
  rw [hp]
  go_wp2_with fail
  go_ret
  exact ⟨rfl, rfl⟩
theorem ax_lo1 (f : Nat) (w : World) (hn : (fo f f != some .eq) = false)(hp : (fo f 9218868437227405311 == some .gt) = false)(h1 : (fo f 4607182418800017408 == some .gt || fo f 4607182418800017408 == some .eq) = false)(hq : (fo (Op.negFloat .f64 f) 9218868437227405311 == some .gt) = true) :
    Calls Try.prog 11 #[.float .f64 f] w fun e w' => e = .returned (.int .i8 (-127)) ∧ w = w' := by
  go_enter Try.func11, Try.ntmps11
  go_wp2_with fail
  refine (isnan_any _ _).mono ?_
  rintro e w' ⟨rfl, rfl⟩
  rw [hn]
  go_wp2_with fail
  refine (isinf_pos _ _).mono ?_
  rintro e w' ⟨rfl, rfl⟩
  rw [hp]
  go_wp2_with fail
  refine (isinf_neg _ _).mono ?_
  rintro e w' ⟨rfl, rfl⟩
  rw [hq]
  go_wp2_with fail
  go_ret
  exact ⟨rfl, rfl⟩
theorem ax_lo2 (f : Nat) (w : World) (hn : (fo f f != some .eq) = false)(hp : (fo f 9218868437227405311 == some .gt) = false)(h1 : (fo f 4607182418800017408 == some .gt || fo f 4607182418800017408 == some .eq) = false)(hq : (fo (Op.negFloat .f64 f) 9218868437227405311 == some .gt) = false)(h2 : (fo f 13830554455654793216 == some .lt || fo f 13830554455654793216 == some .eq) = true) :
    Calls Try.prog 11 #[.float .f64 f] w fun e w' => e = .returned (.int .i8 (-127)) ∧ w = w' := by
  go_enter Try.func11, Try.ntmps11
  go_wp2_with fail
  refine (isnan_any _ _).mono ?_
  rintro e w' ⟨rfl, rfl⟩
  rw [hn]
  go_wp2_with fail
  refine (isinf_pos _ _).mono ?_
  rintro e w' ⟨rfl, rfl⟩
  rw [hp]
  go_wp2_with fail
  refine (isinf_neg _ _).mono ?_
  rintro e w' ⟨rfl, rfl⟩
  rw [hq]
  go_wp2_with fail
  go_ret
  exact ⟨rfl, rfl⟩
theorem ax_dead (f : Nat) (w : World) (hn : (fo f f != some .eq) = false)(hp : (fo f 9218868437227405311 == some .gt) = false)(h1 : (fo f 4607182418800017408 == some .gt || fo f 4607182418800017408 == some .eq) = false)(hq : (fo (Op.negFloat .f64 f) 9218868437227405311 == some .gt) = false)(h2 : (fo f 13830554455654793216 == some .lt || fo f 13830554455654793216 == some .eq) = false)(h3 : (fo f 13817043656772681728 == some .gt) = true)(h4 : (fo f 4593671619917905920 == some .lt) = true) :
    Calls Try.prog 11 #[.float .f64 f] w fun e w' => e = .returned (.int .i8 (0)) ∧ w = w' := by
  go_enter Try.func11, Try.ntmps11
  go_wp2_with fail
  refine (isnan_any _ _).mono ?_
  rintro e w' ⟨rfl, rfl⟩
  rw [hn]
  go_wp2_with fail
  refine (isinf_pos _ _).mono ?_
  rintro e w' ⟨rfl, rfl⟩
  rw [hp]
  go_wp2_with fail
  refine (isinf_neg _ _).mono ?_
  rintro e w' ⟨rfl, rfl⟩
  rw [hq]
  go_wp2_with fail
  go_ret
  exact ⟨rfl, rfl⟩
theorem ax_mid1 (f : Nat) (w : World) (v u : Nat) (r : Int) (hf : f < 18446744073709551616) (hm : floatBits .mul .f64 f 4638637247447433216 = some v) (ha : floatBits .add .f64 v (FK.mkw (FK.sg f) FK.rh) = some u) (hc : floatToIntVal .f64 u .i8 = some r)(hn : (fo f f != some .eq) = false)(hp : (fo f 9218868437227405311 == some .gt) = false)(h1 : (fo f 4607182418800017408 == some .gt || fo f 4607182418800017408 == some .eq) = false)(hq : (fo (Op.negFloat .f64 f) 9218868437227405311 == some .gt) = false)(h2 : (fo f 13830554455654793216 == some .lt || fo f 13830554455654793216 == some .eq) = false)(h3 : (fo f 13817043656772681728 == some .gt) = false) :
    Calls Try.prog 11 #[.float .f64 f] w fun e w' => e = .returned (.int .i8 (r)) ∧ w = w' := by
  have x1 := fun (W : World) => run_float_arith (P := Try.prog) W .mul 23 .f64 f _ v hm
  have x2 := fun (W : World) => run_float_arith (P := Try.prog) W .add 23 .f64 v _ u ha
  have x3 := fun (W : World) => run_convert_float_int (P := Try.prog) W 23 22 .f64 .i8 u r (by rw [Try.underlying23]; rfl) Try.underlying22 hc
  have HM := Lib.hid hm
  have HA := Lib.hid ha
  have HC := Lib.hid hc
  have HF := Lib.hid hf
  clear hm ha hc hf
  go_enter Try.func11, Try.ntmps11
  go_wp2_with fail
  refine (isnan_any _ _).mono ?_
  rintro e w' ⟨rfl, rfl⟩
  rw [hn]
  go_wp2_with fail
  refine (isinf_pos _ _).mono ?_
  rintro e w' ⟨rfl, rfl⟩
  rw [hp]
  go_wp2_with fail
  refine (isinf_neg _ _).mono ?_
  rintro e w' ⟨rfl, rfl⟩
  rw [hq]
  go_wp2_with fail
  refine (copysign_any _ HF.out _).mono ?_
  rintro e w' ⟨rfl, rfl⟩
  go_wp2_with fail
  go_ret
  exact ⟨rfl, rfl⟩
theorem ax_mid2 (f : Nat) (w : World) (v u : Nat) (r : Int) (hf : f < 18446744073709551616) (hm : floatBits .mul .f64 f 4638637247447433216 = some v) (ha : floatBits .add .f64 v (FK.mkw (FK.sg f) FK.rh) = some u) (hc : floatToIntVal .f64 u .i8 = some r)(hn : (fo f f != some .eq) = false)(hp : (fo f 9218868437227405311 == some .gt) = false)(h1 : (fo f 4607182418800017408 == some .gt || fo f 4607182418800017408 == some .eq) = false)(hq : (fo (Op.negFloat .f64 f) 9218868437227405311 == some .gt) = false)(h2 : (fo f 13830554455654793216 == some .lt || fo f 13830554455654793216 == some .eq) = false)(h3 : (fo f 13817043656772681728 == some .gt) = true)(h4 : (fo f 4593671619917905920 == some .lt) = false) :
    Calls Try.prog 11 #[.float .f64 f] w fun e w' => e = .returned (.int .i8 (r)) ∧ w = w' := by
  have x1 := fun (W : World) => run_float_arith (P := Try.prog) W .mul 23 .f64 f _ v hm
  have x2 := fun (W : World) => run_float_arith (P := Try.prog) W .add 23 .f64 v _ u ha
  have x3 := fun (W : World) => run_convert_float_int (P := Try.prog) W 23 22 .f64 .i8 u r (by rw [Try.underlying23]; rfl) Try.underlying22 hc
  have HM := Lib.hid hm
  have HA := Lib.hid ha
  have HC := Lib.hid hc
  have HF := Lib.hid hf
  clear hm ha hc hf
  go_enter Try.func11, Try.ntmps11
  go_wp2_with fail
  refine (isnan_any _ _).mono ?_
  rintro e w' ⟨rfl, rfl⟩
  rw [hn]
  go_wp2_with fail
  refine (isinf_pos _ _).mono ?_
  rintro e w' ⟨rfl, rfl⟩
  rw [hp]
  go_wp2_with fail
  refine (isinf_neg _ _).mono ?_
  rintro e w' ⟨rfl, rfl⟩
  rw [hq]
  go_wp2_with fail
  refine (copysign_any _ HF.out _).mono ?_
  rintro e w' ⟨rfl, rfl⟩
  go_wp2_with fail
  go_ret
  exact ⟨rfl, rfl⟩

theorem axis_any (f : Nat) (hf : f < 18446744073709551616) (w : World) :
    Calls Try.prog 11 #[.float .f64 f] w fun e w' => e = .returned (.int .i8 (axisF f)) ∧ w = w' := by
  unfold axisF
  by_cases hn : 9218868437227405312 < FK.rg f
  · rw [if_pos hn]
    refine ax_nan f w ?_
    show (Ieee.double.order f f != some .eq) = true
    unfold Ieee.Format.order
    rw [FK.read_nan f hn]; rfl
  rw [if_neg hn]
  obtain ⟨t0, t1, t2, t3, t4, t5, t6, t7⟩ := tests f (by omega)
  have hr1 : FK.r1 = 4607182418800017408 := rfl
  have hr8 : FK.r8 = 4593671619917905920 := rfl
  have hs : FK.sr f = if FK.sg f then -(FK.rg f : Int) else FK.rg f := rfl
  by_cases h1 : FK.r1 ≤ FK.rg f
  · rw [if_pos h1]
    cases hsg : FK.sg f
    · rw [hsg] at hs
      simp only [Bool.false_eq_true, if_false] at hs ⊢
      by_cases hi : 9218868437227405311 < FK.sr f
      · exact ax_hi1 f w t0 (by rw [t1]; simp [hi])
      · exact ax_hi2 f w t0 (by rw [t1]; simp [hi]) (by rw [t3]; simp; omega)
    · rw [hsg] at hs
      simp only [if_true] at hs ⊢
      by_cases hi : 9218868437227405311 < -FK.sr f
      · exact ax_lo1 f w t0 (by rw [t1]; simp; omega) (by rw [t3]; simp; omega) (by rw [t2]; simp [hi])
      · exact ax_lo2 f w t0 (by rw [t1]; simp; omega) (by rw [t3]; simp; omega) (by rw [t2]; simp [hi]) (by rw [t4]; simp; omega)
  rw [if_neg h1]
  have b1 : (fo f 9218868437227405311 == some .gt) = false := by rw [t1]; simp; cases hsg : FK.sg f <;> rw [hsg] at hs <;> simp at hs <;> omega
  have b2 : (fo f 4607182418800017408 == some .gt || fo f 4607182418800017408 == some .eq) = false := by rw [t3]; simp; cases hsg : FK.sg f <;> rw [hsg] at hs <;> simp at hs <;> omega
  have b3 : (fo (Op.negFloat .f64 f) 9218868437227405311 == some .gt) = false := by rw [t2]; simp; cases hsg : FK.sg f <;> rw [hsg] at hs <;> simp at hs <;> omega
  have b4 : (fo f 13830554455654793216 == some .lt || fo f 13830554455654793216 == some .eq) = false := by rw [t4]; simp; cases hsg : FK.sg f <;> rw [hsg] at hs <;> simp at hs <;> omega
  by_cases h2 : FK.rg f < FK.r8
  · rw [if_pos h2]
    exact ax_dead f w t0 b1 b2 b3 b4 (by rw [t5]; simp; cases hsg : FK.sg f <;> rw [hsg] at hs <;> simp at hs <;> omega) (by rw [t6]; simp; cases hsg : FK.sg f <;> rw [hsg] at hs <;> simp at hs <;> omega)
  · rw [if_neg h2]
    obtain ⟨c1, c2, c3, c4⟩ := FK.axis_core f (by omega) (by omega)
    by_cases h5 : -4593671619917905920 < FK.sr f
    · exact ax_mid2 f w _ _ _ hf c1 c2 c4 t0 b1 b2 b3 b4 (by rw [t5]; simp [h5]) (by rw [t6]; simp; cases hsg : FK.sg f <;> rw [hsg] at hs <;> simp at hs <;> omega)
    · exact ax_mid1 f w _ _ _ hf c1 c2 c4 t0 b1 b2 b3 b4 (by rw [t5]; simp [h5])
end Go.Proofs.Ytbgliebmdjjmaaa
