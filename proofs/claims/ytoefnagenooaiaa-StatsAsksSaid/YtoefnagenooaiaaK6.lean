/-
  Doubles: Doubles cut to 32 bits; infinities and signs.
-/
import Derived.Test.YtoefnagenooaiaaK5
namespace FK
set_option linter.unusedVariables false
open Ieee

theorem eq_self (x : Nat) (h : rg x ≤ 9218868437227405312) : (double.order x x != some .eq) = false := by
  rw [order_eq x x h h, cmp_eq rfl]; rfl
theorem gt_iff {x y : Nat} (hx : rg x ≤ 9218868437227405312) (hy : rg y ≤ 9218868437227405312) : (double.order x y == some .gt) = decide (sr y < sr x) := by
  rw [order_eq x y hx hy]
  by_cases h : sr y < sr x
  · rw [cmp_gt h]; simp [h]
  · by_cases h2 : sr x < sr y
    · rw [cmp_lt h2]; simp [h]
    · rw [cmp_eq (by omega)]; simp [h]
theorem lt_iff {x y : Nat} (hx : rg x ≤ 9218868437227405312) (hy : rg y ≤ 9218868437227405312) : (double.order x y == some .lt) = decide (sr x < sr y) := by
  rw [order_eq x y hx hy]
  by_cases h : sr x < sr y
  · rw [cmp_lt h]; simp [h]
  · by_cases h2 : sr y < sr x
    · rw [cmp_gt h2]; simp [h]
    · rw [cmp_eq (by omega)]; simp [h]
theorem eq_iff {x y : Nat} (hx : rg x ≤ 9218868437227405312) (hy : rg y ≤ 9218868437227405312) : (double.order x y == some .eq) = decide (sr x = sr y) := by
  rw [order_eq x y hx hy]
  by_cases h : sr x < sr y
  · rw [cmp_lt h]; simp; omega
  · by_cases h2 : sr y < sr x
    · rw [cmp_gt h2]; simp; omega
    · rw [cmp_eq (by omega)]; simp; omega

theorem rg_neg (x : Nat) : rg (Go.Op.negFloat .f64 x) = rg x := by
  show (x ^^^ 2 ^ 63) % 2 ^ 63 = x % 2 ^ 63
  rw [Nat.xor_mod_two_pow, Nat.mod_self, Nat.xor_zero]
theorem sg_neg (x : Nat) : sg (Go.Op.negFloat .f64 x) = !sg x := by
  have h : ∀ y : Nat, sg y = y.testBit 63 := fun y => by
    rw [Nat.testBit_eq_decide_div_mod_eq]
    unfold sg
    have : (2 : Nat) ^ 63 = 9223372036854775808 := by decide
    rw [this]
    by_cases hh : y / 9223372036854775808 % 2 = 1 <;> simp [hh]
  rw [h, h]
  show (x ^^^ 2 ^ 63).testBit 63 = _
  rw [Nat.testBit_xor, Nat.testBit_two_pow_self, Bool.xor_true]
theorem sr_neg (x : Nat) : sr (Go.Op.negFloat .f64 x) = -sr x := by
  unfold sr; rw [rg_neg, sg_neg]; cases sg x <;> simp

theorem not_inf {x : Nat} (h : rg x < 9218868437227405312) : (double.order x 9218868437227405311 == some .gt) = false := by
  rw [gt_iff (by omega) (by decide)]
  have e : sr 9218868437227405311 = 9218868437227405311 := by decide
  rw [e]
  have : ¬ (9218868437227405311 : Int) < sr x := by
    unfold sr; split <;> omega
  simp [this]

/-- A float that lies between the least and the greatest of 32 bits has its whole part. -/
theorem toI32 (v : Nat) (h : rg v < 9218868437227405312) (lo : sr 13970166044103278592 < sr v) (hi : sr v < sr 4746794007244308480) :
    Go.floatToIntVal .f64 v .i32 = some (if sg v then -(T (rg v) : Int) else T (rg v)) := by
  have e1 : sr 13970166044103278592 = -4746794007248502784 := by decide
  have e2 : sr 4746794007244308480 = 4746794007244308480 := by decide
  rw [e1] at lo
  rw [e2] at hi
  unfold Go.floatToIntVal
  have ht : (Go.FloatKind.decode .f64 v).toInt .zero = some (if sg v then -(T (rg v) : Int) else T (rg v)) := toInt_fin v h
  rw [ht]
  simp only
  have emin : Go.IntKind.i32.min = -2147483648 := by decide
  have emax : Go.IntKind.i32.max = 2147483647 := by decide
  rw [emin, emax]
  unfold sr at lo hi
  cases hs : sg v
  · rw [hs] at lo hi
    simp only [Bool.false_eq_true, if_false] at lo hi ⊢
    have := T_le (rg v) 4746794007244308480 2147483647 h (by decide) (by decide) (by decide) (by omega)
    rw [if_pos (by omega)]
  · rw [hs] at lo hi
    simp only [if_true] at lo hi ⊢
    have := T_le (rg v) 4746794007248502784 2147483648 h (by decide) (by decide) (by decide) (by omega)
    rw [if_pos (by omega)]

theorem T_D {n : Int} {k : Nat} (h : Wr n (-k)) (hk : k ≤ 1000) : T (rg (D n (-k))) = n.natAbs / 2 ^ k := by
  have a := M_D h
  have b := pl_ge (rg (D n (-k)))
  unfold M at a
  unfold T
  generalize mg (rg (D n (-k))) = m at *
  generalize pl (rg (D n (-k))) = p at *
  have e1 : (p + 1074).toNat = p.toNat + (1074 - (-p).toNat) := by omega
  have e2 : (-(k : Int) + 1074).toNat = 1074 - k := by omega
  rw [e1, e2, Nat.pow_add, ← Nat.mul_assoc] at a
  rw [← Nat.mul_div_mul_right _ _ (Nat.two_pow_pos (1074 - (-p).toNat)), a, ← Nat.pow_add]
  have e3 : (-p).toNat + (1074 - (-p).toNat) = k + (1074 - k) := by omega
  rw [e3, Nat.pow_add, Nat.mul_div_mul_right _ _ (Nat.two_pow_pos _)]

theorem K_D : (4679240012837945344 : Nat) = D 65536 0 := by decide +kernel
theorem Wr_K : Wr 65536 0 := by unfold Wr; decide
theorem mulK {n p : Int} (h : Wr n p) : double.mul (D n p) 4679240012837945344 = some (D n (p + 16)) := by
  rw [K_D, mul_D_pow h Wr_K (by decide)]
  congr 1
  have := D_scale n (p + 16) 16
  rw [← this]
  congr 1; omega
theorem divK {n p : Int} (h : Wr n p) : double.div (D n p) 4679240012837945344 = some (D n (p - 16)) :=
  div_D h _ 16 (by decide) (by decide) (by decide) (by decide)
theorem order_D' {n m p q : Int} (k : Nat) (h1 : Wr n p) (h2 : Wr (m * 2 ^ k) (q - k)) (e : q - k = p) : double.order (D n p) (D m q) = some (compare n (m * 2 ^ k)) := by
  rw [← D_scale m q k, e]
  rw [e] at h2
  exact order_D h1 h2
end FK
