/-
  Curve: the contracts of the small functions on floats: what each call returns, for every input.
-/
import Derived.Test.YtmkmlkfnodhejaaRows
import Derived.Test.YtmkmlkfnodhejaaK10
import Derived.WalkKit
import Derived.ProofKit
import Derived.OpenShut
import Derived.Outline
import Derived.Deep.QuietTactic
import Derived.BigQuiet
import Derived.Deep.RegionWith
import Derived.Deep.Light
import Derived.Lib.Hide
import Derived.Lib.QuietBelow
import Derived.WalkLawsBesides
import Derived.Laws.FloatArith
import Derived.Laws.Externs
namespace Go.Proofs.Ytmkmlkfnodhejaa
set_option linter.unusedVariables false
open Go.ChangeShapes Go.WideShapes Go.ChangeAt Go.RowKit

theorem ret_bool {a b : Bool} (h : a = b) : Ending.returned (.bool a) = .returned (.bool b) := by rw [h]
theorem ret_int {k : IntKind} {a b : Int} (h : a = b) : Ending.returned (.int k a) = .returned (.int k b) := by rw [h]
theorem ret_f {a b : Nat} (h : a = b) : Ending.returned (.float .f64 a) = .returned (.float .f64 b) := by rw [h]

abbrev fo (a b : Nat) : Option Ordering := FloatKind.f64.format.order a b
theorem run_neg_f64 (b : Nat) : Op.unary UnOp.neg (Value.float .f64 b) = pure (.float .f64 (Op.negFloat .f64 b)) := rfl
attribute [local go_sem] run_neg_f64
theorem frombits_run (n : Int) (w : World) : (callFunc 34 #[.int .u64 n]).run Try.prog w = .ok (.value (.float .f64 n.toNat)) w := by
  rw [run_callFunc_extern (f := 34) (fn := Try.f34) (e := Extern.MathFloatBits.float64frombits) (by kernel_rfl) (by kernel_rfl) (by kernel_rfl) (by kernel_rfl) (by kernel_rfl)]
  rfl
attribute [local go_sem] frombits_run
theorem bits_run (n : Nat) (w : World) : (callFunc 30 #[.float .f64 n]).run Try.prog w = .ok (.value (.int .u64 n)) w := by
  rw [run_callFunc_extern (f := 30) (fn := Try.f30) (e := Extern.MathFloatBits.float64bits) (by kernel_rfl) (by kernel_rfl) (by kernel_rfl) (by kernel_rfl) (by kernel_rfl)]
  rfl
attribute [local go_sem] bits_run

theorem u64_andNot (f : Nat) (hf : f < 18446744073709551616) : (bits BinOp.andNot IntKind.u64 (f : Int) 9223372036854775808) = (FK.rg f : Int) := by
  have e1 : bits BinOp.andNot IntKind.u64 (f : Int) 9223372036854775808 = bits BinOp.and IntKind.u64 (f : Int) 9223372036854775807 := by
    simp only [bits]; rfl
  have h := (bits_nat .u64 64 (by decide) (fun n h0 h1 => by simp [IntKind.wrap, IntKind.bits, IntKind.signed]; omega) f 9223372036854775807 (by omega) (by decide)).1
  have e : ((9223372036854775807 : Nat) : Int) = 9223372036854775807 := rfl
  rw [e] at h
  rw [e1, h]
  have e2 : (9223372036854775807 : Nat) = 2 ^ 63 - 1 := by decide
  rw [e2, Nat.and_two_pow_sub_one_eq_mod]
  rfl
theorem u64_and (f : Nat) (hf : f < 18446744073709551616) : bits BinOp.and IntKind.u64 (f : Int) 9223372036854775808 = if FK.sg f then 9223372036854775808 else 0 := by
  have h := (bits_nat .u64 64 (by decide) (fun n h0 h1 => by simp [IntKind.wrap, IntKind.bits, IntKind.signed]; omega) f 9223372036854775808 (by omega) (by decide)).1
  have e : ((9223372036854775808 : Nat) : Int) = 9223372036854775808 := rfl
  rw [e] at h
  rw [h]
  have e2 : (9223372036854775808 : Nat) = 2 ^ 63 := by decide
  have h2 : FK.sg f = f.testBit 63 := by
    rw [Nat.testBit_eq_decide_div_mod_eq]
    unfold FK.sg
    rw [← e2]
    by_cases hh : f / 9223372036854775808 % 2 = 1 <;> simp [hh]
  rw [e2, h2]
  cases hb : f.testBit 63 with
  | true =>
    have : f &&& 2 ^ 63 = 2 ^ 63 := by
      apply Nat.eq_of_testBit_eq; intro k
      rw [Nat.testBit_and, Nat.testBit_two_pow]
      by_cases hk : 63 = k
      · subst hk; simp [hb]
      · simp [hk]
    rw [this]; rfl
  | false =>
    have : f &&& 2 ^ 63 = 0 := by
      apply Nat.eq_of_testBit_eq; intro k
      rw [Nat.testBit_and, Nat.testBit_two_pow]
      by_cases hk : 63 = k
      · subst hk; simp [hb]
      · simp [hk]
    rw [this]; rfl
theorem abs_any (f : Nat) (hf : f < 18446744073709551616) (w : World) :
    Calls Try.prog 35 #[.float .f64 f] w fun e w' => e = .returned (.float .f64 (FK.rg f)) ∧ w = w' := by
  have hv : (bits BinOp.andNot IntKind.u64 (f : Int) 9223372036854775808).toNat = FK.rg f := by rw [u64_andNot f hf]; rfl
  have HV := Lib.hid hv
  clear hf hv
  go_enter Try.func35, Try.ntmps35
  go_wp2
  go_ret
  exact ⟨ret_f HV.out, rfl⟩
theorem isnan_any (a : Nat) (w : World) :
    Calls Try.prog 28 #[.float .f64 a] w fun e w' => e = .returned (.bool (fo a a != some .eq)) ∧ w = w' := by
  go_enter Try.func28, Try.ntmps28
  go_wp2
  go_ret
  exact ⟨rfl, rfl⟩
theorem rnan_any (a : Nat) (w : World) :
    Calls Try.prog 29 #[.float .f64 a] w fun e w' => e = .returned (.bool (fo a a != some .eq)) ∧ w = w' := by
  go_enter Try.func29, Try.ntmps29
  go_wp2
  go_ret
  exact ⟨rfl, rfl⟩
theorem isinf_any (a : Nat) (ha : a < 18446744073709551616) (w : World) :
    Calls Try.prog 32 #[.float .f64 a, .int .i64 0] w fun e w' => e = .returned (.bool (fo (FK.rg a) 9218868437227405311 == some .gt)) ∧ w = w' := by
  have HA := Lib.hid ha
  clear ha
  go_enter Try.func32, Try.ntmps32
  go_wp2_with fail
  refine (abs_any _ HA.out _).mono ?_
  rintro e w' ⟨rfl, rfl⟩
  go_wp2_with fail
  go_ret
  exact ⟨rfl, rfl⟩
theorem nan_val (w : World) :
    Calls Try.prog 25 #[] w fun e w' => e = .returned (.float .f64 9221120237041090561) ∧ w = w' := by
  go_enter Try.func25, Try.ntmps25
  go_wp2
  go_ret
  exact ⟨rfl, rfl⟩
theorem inf_pos (w : World) :
    Calls Try.prog 27 #[.int .i64 1] w fun e w' => e = .returned (.float .f64 9218868437227405312) ∧ w = w' := by
  go_enter Try.func27, Try.ntmps27
  go_wp2
  go_ret
  exact ⟨rfl, rfl⟩
theorem copysign_any (x f : Nat) (hx : x < 18446744073709551616) (hf : f < 18446744073709551616) (w : World) :
    Calls Try.prog 26 #[.float .f64 x, .float .f64 f] w fun e w' => e = .returned (.float .f64 (FK.mkw (FK.sg f) (FK.rg x))) ∧ w = w' := by
  have ha := u64_and f hf
  have hb := u64_andNot x hx
  have hr : FK.rg x < 9223372036854775808 := by unfold FK.rg; omega
  have hv : (bits BinOp.or IntKind.u64 (bits BinOp.andNot IntKind.u64 (x : Int) 9223372036854775808) (bits BinOp.and IntKind.u64 (f : Int) 9223372036854775808)).toNat = FK.mkw (FK.sg f) (FK.rg x) := by
    rw [ha, hb]
    cases FK.sg f with
    | false =>
      have h := (bits_nat .u64 64 (by decide) (fun n h0 h1 => by simp [IntKind.wrap, IntKind.bits, IntKind.signed]; omega) (FK.rg x) 0 (by omega) (by decide)).2
      have e : ((0 : Nat) : Int) = 0 := rfl
      rw [e] at h
      simp only [Bool.false_eq_true, if_false]
      rw [h]
      simp [FK.mkw]
    | true =>
      have h := (bits_nat .u64 64 (by decide) (fun n h0 h1 => by simp [IntKind.wrap, IntKind.bits, IntKind.signed]; omega) (FK.rg x) 9223372036854775808 (by omega) (by decide)).2
      have e : ((9223372036854775808 : Nat) : Int) = 9223372036854775808 := rfl
      rw [e] at h
      simp only [if_true]
      rw [h]
      have e2 : FK.rg x ||| 9223372036854775808 = 9223372036854775808 + FK.rg x := by
        rw [Nat.or_comm]
        have := Nat.two_pow_add_eq_or_of_lt (i := 63) (b := FK.rg x) (by omega) 1
        simpa using this.symm
      rw [e2]
      rfl
  have HV := Lib.hid hv
  clear ha hb hv hx hf hr
  go_enter Try.func26, Try.ntmps26
  go_wp2
  go_ret
  exact ⟨ret_f HV.out, rfl⟩
theorem signbit_any (x : Nat) (hx : x < 18446744073709551616) (w : World) :
    Calls Try.prog 24 #[.float .f64 x] w fun e w' => e = .returned (.bool (FK.sg x)) ∧ w = w' := by
  have hv : decide (wrap64 (x : Int) < 0) = FK.sg x := by
    unfold wrap64
    unfold FK.sg
    by_cases h : 9223372036854775808 ≤ x
    · have h2 : x / 9223372036854775808 % 2 = 1 := by omega
      simp [h2]; omega
    · have h2 : x / 9223372036854775808 % 2 = 0 := by omega
      simp [h2]; omega
  have HV := Lib.hid hv
  clear hv
  go_enter Try.func24, Try.ntmps24
  go_wp2
  go_ret
  exact ⟨ret_bool (by rw [← HV.out]), rfl⟩
end Go.Proofs.Ytmkmlkfnodhejaa
