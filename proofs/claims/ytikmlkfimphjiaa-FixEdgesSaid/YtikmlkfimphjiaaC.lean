/-
  Fixed point: the contracts of Of and Float over floats, given what the arithmetic of IEEE 754 gives; and that the few examples are told.
-/
import Derived.Test.YtikmlkfimphjiaaB
import Derived.Laws.Externs
namespace Go.Proofs.Ytikmlkfimphjiaa
set_option linter.unusedVariables false
open Go.ChangeShapes Go.WideShapes Go.ChangeAt Go.RowKit

abbrev fo (a b : Nat) : Option Ordering := FloatKind.f64.format.order a b

attribute [local go_sem] run_float_arith

theorem run_neg_f64 (b : Nat) : Op.unary UnOp.neg (Value.float .f64 b) = pure (.float .f64 (Op.negFloat .f64 b)) := rfl
attribute [local go_sem] run_neg_f64

theorem frombits_run (n : Int) (w : World) : (callFunc 40 #[.int .u64 n]).run Try.prog w = .ok (.value (.float .f64 n.toNat)) w := by
  rw [run_callFunc_extern (f := 40) (fn := Try.f40) (e := Extern.MathFloatBits.float64frombits) (by kernel_rfl) (by kernel_rfl) (by kernel_rfl) (by kernel_rfl) (by kernel_rfl)]
  rfl
attribute [local go_sem] frombits_run

theorem isnan_any (a : Nat) (w : World) :
    Calls Try.prog 37 #[.float .f64 a] w fun e w' => e = .returned (.bool (fo a a != some .eq)) ∧ w = w' := by
  go_enter Try.func37, Try.ntmps37
  go_wp2
  go_ret
  exact ⟨rfl, rfl⟩
theorem risnan_any (a : Nat) (w : World) :
    Calls Try.prog 39 #[.float .f64 a] w fun e w' => e = .returned (.bool (fo a a != some .eq)) ∧ w = w' := by
  go_enter Try.func39, Try.ntmps39
  go_wp2
  go_ret
  exact ⟨rfl, rfl⟩
theorem isinf_pos (a : Nat) (w : World) :
    Calls Try.prog 38 #[.float .f64 a, .int .i64 1] w fun e w' => e = .returned (.bool (fo a 9218868437227405311 == some .gt)) ∧ w = w' := by
  go_enter Try.func38, Try.ntmps38
  go_wp2
  go_ret
  exact ⟨rfl, rfl⟩
theorem isinf_neg (a : Nat) (w : World) :
    Calls Try.prog 38 #[.float .f64 a, .int .i64 (-1)] w fun e w' => e = .returned (.bool (fo (Op.negFloat .f64 a) 9218868437227405311 == some .gt)) ∧ w = w' := by
  go_enter Try.func38, Try.ntmps38
  go_wp2
  go_ret
  exact ⟨rfl, rfl⟩
theorem inf_neg (w : World) :
    Calls Try.prog 28 #[.int .i64 (-1)] w fun e w' => e = .returned (.float .f64 18442240474082181120) ∧ w = w' := by
  go_enter Try.func28, Try.ntmps28
  go_wp2
  go_ret
  exact ⟨rfl, rfl⟩
theorem inf_pos (w : World) :
    Calls Try.prog 28 #[.int .i64 1] w fun e w' => e = .returned (.float .f64 9218868437227405312) ∧ w = w' := by
  go_enter Try.func28, Try.ntmps28
  go_wp2
  go_ret
  exact ⟨rfl, rfl⟩
theorem nan_val (w : World) :
    Calls Try.prog 29 #[] w fun e w' => e = .returned (.float .f64 9221120237041090561) ∧ w = w' := by
  go_enter Try.func29, Try.ntmps29
  go_wp2
  go_ret
  exact ⟨rfl, rfl⟩

theorem order_nan_left {x y : Nat} (h : (FloatKind.f64.format.read x).isNaN = true) : fo x y = none := by
  unfold fo Ieee.Format.order
  cases hx : FloatKind.f64.format.read x with
  | nan s f => cases FloatKind.f64.format.read y <;> rfl
  | number s m e => rw [hx] at h; cases h
  | infinity s => rw [hx] at h; cases h

theorem read_nan {x : Nat} (h : 9218868437227405312 < x % 9223372036854775808) : (FloatKind.f64.format.read x).isNaN = true := by
  have e1 : FloatKind.f64.format.signWeight = 9223372036854775808 := by decide
  have e2 : FloatKind.f64.format.binade = 4503599627370496 := by decide
  have e3 : FloatKind.f64.format.infRung = 9218868437227405312 := by decide
  unfold Ieee.Format.read
  simp only [e1, e2, e3]
  rw [if_neg (by omega), if_neg (by omega), if_neg (by omega)]
  rfl

/-- The tape's answer to a float that is no number is none. -/
theorem run_mul_nan (x y : Nat) (h : floatBits .mul .f64 x y = none) (w : World) :
    ∃ v, (binOp .mul 22 (.float .f64 x) (.float .f64 y)).run Try.prog w = .ok (.float .f64 v) w.drew ∧ (fo v v != some .eq) = true := by
  have h' : FloatKind.f64.format.mul x y = none := h
  refine ⟨Question.cut (.nanBits .f64 x y) (w.tape w.drawn (.nanBits .f64 x y)), ?_, ?_⟩
  · simp only [binOp, Op.floatArith, h', choose]
    rfl
  · generalize w.tape w.drawn (.nanBits .f64 x y) = t
    have e : Question.cut (.nanBits .f64 x y) t = (t % 2) * 9223372036854775808 + 9218868437227405312 + 1 + (t / 2) % 4503599627370495 := rfl
    have h1 : t % 2 < 2 := Nat.mod_lt _ (by decide)
    have h2 : (t / 2) % 4503599627370495 < 4503599627370495 := Nat.mod_lt _ (by decide)
    rw [e]
    generalize (t / 2) % 4503599627370495 = r at *
    generalize t % 2 = s at *
    have h3 : 9218868437227405312 < (s * 9223372036854775808 + 9218868437227405312 + 1 + r) % 9223372036854775808 := by
      have : s = 0 ∨ s = 1 := by omega
      rcases this with rfl | rfl <;> omega
    rw [order_nan_left (read_nan h3)]
    rfl

def bK : Nat := 4679240012837945344
def bMax : Nat := 4746794007244308480
def bMin : Nat := 13970166044103278592
def bInf : Nat := 9218868437227405311

theorem of_max (a v : Nat) (w : World) (hm : floatBits .mul .f64 a 4679240012837945344 = some v) (hn : (fo v v != some .eq) = false) (h1 : (fo v 4746794007244308480 == some .gt || fo v 4746794007244308480 == some .eq) = true) :
    Calls Try.prog 24 #[.float .f64 a] w fun e w' => e = .returned (.int .i32 2147483647) ∧ w = w' := by
  have hr := fun (W : World) => run_float_arith (P := Try.prog) W .mul 22 .f64 a _ v hm
  have Hm := Lib.hid hm
  clear hm
  go_enter Try.func24, Try.ntmps24
  go_wp2_with fail
  refine (isnan_any _ _).mono ?_
  rintro e w' ⟨rfl, rfl⟩
  rw [hn]
  go_wp2_with fail
  go_ret
  exact ⟨rfl, rfl⟩
theorem of_min (a v : Nat) (w : World) (hm : floatBits .mul .f64 a 4679240012837945344 = some v) (hn : (fo v v != some .eq) = false) (h1 : (fo v 4746794007244308480 == some .gt || fo v 4746794007244308480 == some .eq) = false)
    (h2 : (fo v 9218868437227405311 == some .gt) = false) (h3 : (fo v 13970166044103278592 == some .lt || fo v 13970166044103278592 == some .eq) = true) :
    Calls Try.prog 24 #[.float .f64 a] w fun e w' => e = .returned (.int .i32 (-2147483648)) ∧ w = w' := by
  have hr := fun (W : World) => run_float_arith (P := Try.prog) W .mul 22 .f64 a _ v hm
  have Hm := Lib.hid hm
  have H2 := Lib.hid h2
  clear hm h2
  go_enter Try.func24, Try.ntmps24
  go_wp2_with fail
  refine (isnan_any _ _).mono ?_
  rintro e w' ⟨rfl, rfl⟩
  rw [hn]
  go_wp2_with fail
  refine (isinf_pos _ _).mono ?_
  rintro e w' ⟨rfl, rfl⟩
  rw [H2.out]
  go_wp2_with fail
  go_ret
  exact ⟨rfl, rfl⟩
theorem of_mid (a v : Nat) (r : Int) (w : World) (hm : floatBits .mul .f64 a 4679240012837945344 = some v) (hn : (fo v v != some .eq) = false) (h1 : (fo v 4746794007244308480 == some .gt || fo v 4746794007244308480 == some .eq) = false)
    (h2 : (fo v 9218868437227405311 == some .gt) = false) (h3 : (fo v 13970166044103278592 == some .lt || fo v 13970166044103278592 == some .eq) = false)
    (h4 : (fo (Op.negFloat .f64 v) 9218868437227405311 == some .gt) = false) (hc : floatToIntVal .f64 v .i32 = some r) :
    Calls Try.prog 24 #[.float .f64 a] w fun e w' => e = .returned (.int .i32 r) ∧ w = w' := by
  have hr := fun (W : World) => run_float_arith (P := Try.prog) W .mul 22 .f64 a _ v hm
  have hk := fun (W : World) => run_convert_float_int (P := Try.prog) W 22 21 .f64 .i32 v r (by rw [Try.underlying22]; rfl) Try.underlying21 hc
  have Hm := Lib.hid hm
  have H2 := Lib.hid h2
  have H4 := Lib.hid h4
  have HC := Lib.hid hc
  clear hm h2 h4 hc
  go_enter Try.func24, Try.ntmps24
  go_wp2_with fail
  refine (isnan_any _ _).mono ?_
  rintro e w' ⟨rfl, rfl⟩
  rw [hn]
  go_wp2_with fail
  refine (isinf_pos _ _).mono ?_
  rintro e w' ⟨rfl, rfl⟩
  rw [H2.out]
  go_wp2_with fail
  refine (isinf_neg _ _).mono ?_
  rintro e w' ⟨rfl, rfl⟩
  rw [H4.out]
  go_wp2_with fail
  go_ret
  exact ⟨rfl, rfl⟩
theorem of_nan (a : Nat) (w : World) (hm : floatBits .mul .f64 a 4679240012837945344 = none) :
    Calls Try.prog 24 #[.float .f64 a] w fun e w' => e = .returned (.int .i32 0) ∧ w' = w.drew := by
  obtain ⟨v, hr, hn⟩ := run_mul_nan a 4679240012837945344 hm w
  have Hm := Lib.hid hm
  clear hm
  go_enter Try.func24, Try.ntmps24
  go_wp2_with fail
  refine (isnan_any _ _).mono ?_
  rintro e w' ⟨rfl, rfl⟩
  rw [hn]
  go_wp2_with fail
  go_ret
  exact ⟨rfl, rfl⟩
theorem float_any (a : Int) (r : Nat) (w : World) (hd : floatBits .quo .f64 (floatOfInt .f64 a) 4679240012837945344 = some r) :
    Calls Try.prog 26 #[.int .i32 a] w fun e w' => e = .returned (.float .f64 r) ∧ w = w' := by
  have hr := fun (W : World) => run_float_arith (P := Try.prog) W .quo 22 .f64 _ _ r hd
  have Hm := Lib.hid hd
  clear hd
  go_enter Try.func26, Try.ntmps26
  go_wp2_with fail
  go_ret
  exact ⟨rfl, rfl⟩
end Go.Proofs.Ytikmlkfimphjiaa
