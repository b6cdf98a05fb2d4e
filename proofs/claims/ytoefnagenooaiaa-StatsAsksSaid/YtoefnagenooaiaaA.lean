/-
  Stats: the contracts of the small functions on floats: what each call returns, for every input.
-/
import Derived.Test.YtoefnagenooaiaaRows
import Derived.Test.YtoefnagenooaiaaK10
import Derived.WalkKit
import Derived.ProofKit
import Derived.OpenShut
import Derived.Outline
import Derived.Deep.QuietTactic
import Derived.BigQuiet
import Derived.Deep.RegionWith
import Derived.Deep.Light
import Derived.Lib.Hide
import Derived.Lib.QuietBelow
import Derived.WalkLawsBesides
import Derived.Laws.FloatArith
import Derived.Laws.Externs
namespace Go.Proofs.Ytoefnagenooaiaa
set_option linter.unusedVariables false
open Go.ChangeShapes Go.WideShapes Go.ChangeAt Go.RowKit

theorem ret_bool {a b : Bool} (h : a = b) : Ending.returned (.bool a) = .returned (.bool b) := by rw [h]
theorem ret_int {k : IntKind} {a b : Int} (h : a = b) : Ending.returned (.int k a) = .returned (.int k b) := by rw [h]
theorem ret_f {a b : Nat} (h : a = b) : Ending.returned (.float .f64 a) = .returned (.float .f64 b) := by rw [h]

abbrev fo (a b : Nat) : Option Ordering := FloatKind.f64.format.order a b
theorem run_neg_f64 (b : Nat) : Op.unary UnOp.neg (Value.float .f64 b) = pure (.float .f64 (Op.negFloat .f64 b)) := rfl
attribute [local go_sem] run_neg_f64
theorem frombits_run (n : Int) (w : World) : (callFunc 39 #[.int .u64 n]).run Try.prog w = .ok (.value (.float .f64 n.toNat)) w := by
  rw [run_callFunc_extern (f := 39) (fn := Try.f39) (e := Extern.MathFloatBits.float64frombits) (by kernel_rfl) (by kernel_rfl) (by kernel_rfl) (by kernel_rfl) (by kernel_rfl)]
  rfl
attribute [local go_sem] frombits_run
theorem bits_run (n : Nat) (w : World) : (callFunc 30 #[.float .f64 n]).run Try.prog w = .ok (.value (.int .u64 n)) w := by
  rw [run_callFunc_extern (f := 30) (fn := Try.f30) (e := Extern.MathFloatBits.float64bits) (by kernel_rfl) (by kernel_rfl) (by kernel_rfl) (by kernel_rfl) (by kernel_rfl)]
  rfl
attribute [local go_sem] bits_run

theorem run_store_float (P : Program) (w : World) (a : Addr) (m : Mode) (k : FloatKind) (b : Nat) : (store a (.float k b) m).run P w = stored P w a (.float k b) m := run_store P w a _ m rfl
theorem quiet_eq {P : Program} {f : FuncId} {args : Array Value} {w : World} {n : Nat} {v : Value}
    (h : Calls P f args (w.drewN n) fun e w' => e = .returned v ∧ w.drewN n = w') : Calls P f args (w.drewN n) fun e w'' => e = .returned v ∧ ∃ m, w'' = w.drewN m :=
  h.mono fun _ _ ⟨he, hm⟩ => ⟨he, n, hm.symm⟩

theorem ord_pos {x y : Nat} (hx : x ≤ 9218868437227405312) (hy : y ≤ 9218868437227405312) : fo x y = some (compare (x : Int) y) := by
  have f : ∀ z : Nat, z ≤ 9218868437227405312 → FK.rg z = z ∧ FK.sr z = z := fun z hz => by
    have e : FK.rg z = z := Nat.mod_eq_of_lt (by omega)
    have g := FK.sg_mkw false z (by omega)
    have g2 : FK.sg z = false := g
    refine ⟨e, ?_⟩
    unfold FK.sr
    rw [g2, e]; rfl
  have h := FK.order_eq x y (by rw [(f x hx).1]; exact hx) (by rw [(f y hy).1]; exact hy)
  rw [(f x hx).2, (f y hy).2] at h
  exact h
theorem run_min_f {P : Program} {x y : Nat} (hx : x ≤ 9218868437227405312) (hy : y ≤ 9218868437227405312) (ts : Array TypeId) (t : TypeId) (w : World) : (Builtin.min_ ts t #[.float .f64 x, .float .f64 y]).run P w = .ok (.float .f64 (min x y)) w := by
  have h : FloatKind.f64.format.order x y = some (compare (x : Int) y) := ord_pos hx hy
  by_cases c : (x : Int) < y
  · rw [FK.cmp_lt c] at h
    simp [Builtin.min_, Builtin.min2, h]; omega
  · by_cases c2 : (y : Int) < x
    · rw [FK.cmp_gt c2] at h
      simp [Builtin.min_, Builtin.min2, h]; omega
    · have : x = y := by omega
      subst this
      rw [FK.cmp_eq rfl] at h
      simp [Builtin.min_, Builtin.min2, h]
theorem run_max_f {P : Program} {x y : Nat} (hx : x ≤ 9218868437227405312) (hy : y ≤ 9218868437227405312) (ts : Array TypeId) (t : TypeId) (w : World) : (Builtin.max_ ts t #[.float .f64 x, .float .f64 y]).run P w = .ok (.float .f64 (max x y)) w := by
  have h : FloatKind.f64.format.order x y = some (compare (x : Int) y) := ord_pos hx hy
  by_cases c : (x : Int) < y
  · rw [FK.cmp_lt c] at h
    simp [Builtin.max_, Builtin.max2, h]; omega
  · by_cases c2 : (y : Int) < x
    · rw [FK.cmp_gt c2] at h
      simp [Builtin.max_, Builtin.max2, h]; omega
    · have : x = y := by omega
      subst this
      rw [FK.cmp_eq rfl] at h
      simp [Builtin.max_, Builtin.max2, h]

theorem u64_andNot (f : Nat) (hf : f < 18446744073709551616) : (bits BinOp.andNot IntKind.u64 (f : Int) 9223372036854775808).toNat = FK.rg f := by
  have e1 : bits BinOp.andNot IntKind.u64 (f : Int) 9223372036854775808 = bits BinOp.and IntKind.u64 (f : Int) 9223372036854775807 := by
    simp only [bits]; rfl
  have h := (bits_nat .u64 64 (by decide) (fun n h0 h1 => by simp [IntKind.wrap, IntKind.bits, IntKind.signed]; omega) f 9223372036854775807 (by omega) (by decide)).1
  have e : ((9223372036854775807 : Nat) : Int) = 9223372036854775807 := rfl
  rw [e] at h
  rw [e1, h]
  have e2 : (9223372036854775807 : Nat) = 2 ^ 63 - 1 := by decide
  rw [e2, Nat.and_two_pow_sub_one_eq_mod]
  rfl
theorem abs_any (f : Nat) (hf : f < 18446744073709551616) (w : World) :
    Calls Try.prog 24 #[.float .f64 f] w fun e w' => e = .returned (.float .f64 (FK.rg f)) ∧ w = w' := by
  have HV := Lib.hid (u64_andNot f hf)
  clear hf
  go_enter Try.func24, Try.ntmps24
  go_wp2
  go_ret
  exact ⟨ret_f HV.out, rfl⟩
theorem isnan_any (a : Nat) (w : World) :
    Calls Try.prog 26 #[.float .f64 a] w fun e w' => e = .returned (.bool (fo a a != some .eq)) ∧ w = w' := by
  go_enter Try.func26, Try.ntmps26
  go_wp2
  go_ret
  exact ⟨rfl, rfl⟩
theorem rnan_any (a : Nat) (w : World) :
    Calls Try.prog 29 #[.float .f64 a] w fun e w' => e = .returned (.bool (fo a a != some .eq)) ∧ w = w' := by
  go_enter Try.func29, Try.ntmps29
  go_wp2
  go_ret
  exact ⟨rfl, rfl⟩
theorem isinf_pos (a : Nat) (w : World) :
    Calls Try.prog 28 #[.float .f64 a, .int .i64 1] w fun e w' => e = .returned (.bool (fo a 9218868437227405311 == some .gt)) ∧ w = w' := by
  go_enter Try.func28, Try.ntmps28
  go_wp2
  go_ret
  exact ⟨rfl, rfl⟩
theorem isinf_any (a : Nat) (ha : a < 18446744073709551616) (w : World) :
    Calls Try.prog 28 #[.float .f64 a, .int .i64 0] w fun e w' => e = .returned (.bool (fo (FK.rg a) 9218868437227405311 == some .gt)) ∧ w = w' := by
  have HA := Lib.hid ha
  clear ha
  go_enter Try.func28, Try.ntmps28
  go_wp2_with fail
  refine (abs_any _ HA.out _).mono ?_
  rintro e w' ⟨rfl, rfl⟩
  go_wp2_with fail
  go_ret
  exact ⟨rfl, rfl⟩
theorem nan_val (w : World) :
    Calls Try.prog 27 #[] w fun e w' => e = .returned (.float .f64 9221120237041090561) ∧ w = w' := by
  go_enter Try.func27, Try.ntmps27
  go_wp2
  go_ret
  exact ⟨rfl, rfl⟩
theorem inf_pos (w : World) :
    Calls Try.prog 22 #[.int .i64 1] w fun e w' => e = .returned (.float .f64 9218868437227405312) ∧ w = w' := by
  go_enter Try.func22, Try.ntmps22
  go_wp2
  go_ret
  exact ⟨rfl, rfl⟩
theorem inf_neg (w : World) :
    Calls Try.prog 22 #[.int .i64 (-1)] w fun e w' => e = .returned (.float .f64 18442240474082181120) ∧ w = w' := by
  go_enter Try.func22, Try.ntmps22
  go_wp2
  go_ret
  exact ⟨rfl, rfl⟩
theorem signbit_pos (x : Nat) (hx : x < 9223372036854775808) (w : World) :
    Calls Try.prog 21 #[.float .f64 x] w fun e w' => e = .returned (.bool false) ∧ w = w' := by
  go_enter Try.func21, Try.ntmps21
  go_wp2
  go_ret
  exact ⟨ret_bool (by simp), rfl⟩
theorem same_any (a : Nat) (w : World) :
    Calls Try.prog 14 #[.float .f64 a, .float .f64 a] w fun e w' => e = .returned (.bool true) ∧ w = w' := by
  go_enter Try.func14, Try.ntmps14
  cases h : (fo a a != some .eq) with
  | true =>
    go_wp2_with fail
    refine (rnan_any _ _).mono ?_
    rintro e w' ⟨rfl, rfl⟩
    rw [h]
    go_wp2_with fail
    refine (rnan_any _ _).mono ?_
    rintro e w' ⟨rfl, rfl⟩
    rw [h]
    go_wp2_with fail
    go_ret
    exact ⟨rfl, rfl⟩
  | false =>
    go_wp2_with fail
    refine (rnan_any _ _).mono ?_
    rintro e w' ⟨rfl, rfl⟩
    rw [h]
    go_wp2_with fail
    go_ret
    exact ⟨rfl, rfl⟩
end Go.Proofs.Ytoefnagenooaiaa
