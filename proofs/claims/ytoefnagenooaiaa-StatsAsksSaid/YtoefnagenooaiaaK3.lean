/-
  Doubles: The order of doubles is the order of their signed rungs.
-/
import Derived.Test.YtoefnagenooaiaaK2
namespace FK
set_option linter.unusedVariables false
open Ieee

def rg (x : Nat) : Nat := x % 9223372036854775808
def sg (x : Nat) : Bool := x / 9223372036854775808 % 2 == 1
def sr (x : Nat) : Int := if sg x then -(rg x : Int) else rg x
def mkw (neg : Bool) (r : Nat) : Nat := if neg then 9223372036854775808 + r else r

theorem word_eq (neg : Bool) (r : Nat) : double.word neg r = mkw neg r := by
  unfold Format.word mkw
  have : double.signWeight = 9223372036854775808 := by decide
  rw [this]
theorem rg_mkw (neg : Bool) (r : Nat) (h : r < 9223372036854775808) : rg (mkw neg r) = r := by
  unfold rg mkw; cases neg <;> simp <;> omega
theorem sg_mkw (neg : Bool) (r : Nat) (h : r < 9223372036854775808) : sg (mkw neg r) = neg := by
  unfold sg mkw; cases neg
  · have : r / 9223372036854775808 = 0 := Nat.div_eq_of_lt h
    simp [this]
  · have : (9223372036854775808 + r) / 9223372036854775808 = 1 := by omega
    simp [this]
theorem mkw_self (x : Nat) (h : x < 18446744073709551616) : mkw (sg x) (rg x) = x := by
  unfold mkw sg rg
  by_cases h1 : x / 9223372036854775808 % 2 = 1
  · have : (x / 9223372036854775808 % 2 == 1) = true := by simp [h1]
    rw [this, if_pos rfl]; omega
  · have : (x / 9223372036854775808 % 2 == 1) = false := by simp; omega
    rw [this]; simp; omega

theorem read_fin (x : Nat) (h : rg x < 9218868437227405312) : double.read x = .number (sg x) (mg (rg x)) (pl (rg x)) := by
  have e1 : double.signWeight = 9223372036854775808 := by decide
  have e2 : double.binade = 4503599627370496 := by decide
  have e3 : double.infRung = 9218868437227405312 := by decide
  have e4 : double.leastPlace = -1074 := by decide
  unfold Format.read
  simp only [e1, e2, e3, e4]
  unfold rg at h
  unfold mg pl rg sg
  by_cases hr : x % 9223372036854775808 < 4503599627370496
  · rw [if_pos hr, if_pos hr, if_pos hr]
  · rw [if_neg hr, if_pos h, if_neg hr, if_neg hr]
theorem read_inf (x : Nat) (h : rg x = 9218868437227405312) : double.read x = .infinity (sg x) := by
  have e1 : double.signWeight = 9223372036854775808 := by decide
  have e2 : double.binade = 4503599627370496 := by decide
  have e3 : double.infRung = 9218868437227405312 := by decide
  unfold Format.read
  simp only [e1, e2, e3]
  unfold rg at h
  rw [if_neg (by omega), if_neg (by omega), if_pos h]
  rfl
theorem read_nan (x : Nat) (h : 9218868437227405312 < rg x) : double.read x = .nan (sg x) (rg x - 9218868437227405312) := by
  have e1 : double.signWeight = 9223372036854775808 := by decide
  have e2 : double.binade = 4503599627370496 := by decide
  have e3 : double.infRung = 9218868437227405312 := by decide
  unfold Format.read
  simp only [e1, e2, e3]
  unfold rg at h
  rw [if_neg (by omega), if_neg (by omega), if_neg (by omega)]
  rfl

/-- The value of a rung, in units of the least place. -/
def M (r : Nat) : Nat := mg r * 2 ^ (pl r + 1074).toNat
theorem pl_ge (r : Nat) : -1074 ≤ pl r := by unfold pl; split <;> omega
theorem vle_refl (m : Nat) (p : Int) : vle m p m p := Nat.le_refl _
theorem vle_total (m : Nat) (p : Int) (n : Nat) (q : Int) : vle m p n q ∨ vle n q m p := by
  unfold vle; exact Nat.le_total _ _

theorem rung_eq_of {m n : Nat} {p q : Int} (h1 : vle m p n q) (h2 : vle n q m p) : rung m p = rung n q :=
  Nat.le_antisymm (rung_mono h1) (rung_mono h2)
theorem rung_scale (m : Nat) (p : Int) (k : Nat) : rung (m * 2 ^ k) (p - k) = rung m p := by
  apply rung_eq_of
  · exact vle_of (x := 0) (y := k) (by omega) (by simp)
  · exact vle_of (x := k) (y := 0) (by omega) (by simp)

/-- Rounding of a whole number of units. -/
def R (n : Nat) : Nat := rung n (-1074)
theorem R_mono {m n : Nat} (h : m ≤ n) : R m ≤ R n := rung_mono (vle_of (x := 0) (y := 0) (by omega) (by simpa using h))
theorem R_M (r : Nat) (h : r < 9218868437227405312) : R (M r) = r := by
  have h1 := rung_scale (mg r) (pl r) (pl r + 1074).toNat
  have h2 := pl_ge r
  have e : pl r - ((pl r + 1074).toNat : Int) = -1074 := by omega
  rw [e] at h1
  unfold R M
  rw [h1, rung_self r h]
theorem M_mono_iff {r s : Nat} (hr : r < 9218868437227405312) (hs : s < 9218868437227405312) : M r ≤ M s ↔ r ≤ s := by
  constructor
  · intro h
    have := R_mono h
    rwa [R_M r hr, R_M s hs] at this
  · intro h
    rcases Nat.le_total (M r) (M s) with h1 | h1
    · exact h1
    · have := R_mono h1
      rw [R_M r hr, R_M s hs] at this
      have : r = s := by omega
      rw [this]; exact Nat.le_refl _
theorem M_zero : M 0 = 0 := by decide
theorem M_eq_zero {r : Nat} (hr : r < 9218868437227405312) : M r = 0 ↔ r = 0 := by
  constructor
  · intro h
    have := (M_mono_iff hr (s := 0) (by decide)).1 (by rw [h]; exact Nat.zero_le _)
    omega
  · rintro rfl; exact M_zero

def V (x : Nat) : Int := if sg x then -(M (rg x) : Int) else M (rg x)

theorem signed_eq (neg : Bool) (m u : Nat) : signed neg m u = if neg then -((m * 2 ^ u : Nat) : Int) else ((m * 2 ^ u : Nat) : Int) := by
  unfold signed; rw [Nat.shiftLeft_eq]

theorem compare_congr {a b c d : Int} (h1 : a < b ↔ c < d) (h2 : a = b ↔ c = d) : compare a b = compare c d := by
  simp only [compare, compareOfLessAndEq]
  by_cases h : a < b
  · rw [if_pos h, if_pos (h1.1 h)]
  · rw [if_neg h, if_neg (fun k => h (h1.2 k))]
    by_cases h' : a = b
    · rw [if_pos h', if_pos (h2.1 h')]
    · rw [if_neg h', if_neg (fun k => h' (h2.2 k))]

theorem cmp_lt {a b : Int} (h : a < b) : compare a b = .lt := by simp only [compare, compareOfLessAndEq]; rw [if_pos h]
theorem cmp_gt {a b : Int} (h : b < a) : compare a b = .gt := by simp only [compare, compareOfLessAndEq]; rw [if_neg (by omega), if_neg (by omega)]
theorem cmp_eq {a b : Int} (h : a = b) : compare a b = .eq := by simp only [compare, compareOfLessAndEq]; rw [if_neg (by omega), if_pos h]

theorem num_le {r s : Nat} (hr : r < 9218868437227405312) (hs : s < 9218868437227405312) {x y : Nat} (e : (x : Int) - y = pl r - pl s) : mg r * 2 ^ x ≤ mg s * 2 ^ y ↔ r ≤ s := by
  constructor
  · intro h
    have := rung_mono (vle_of e h)
    rwa [rung_self r hr, rung_self s hs] at this
  · intro h
    rcases vle_total (mg r) (pl r) (mg s) (pl s) with h1 | h1
    · exact vle_at h1 e
    · have := rung_mono h1
      rw [rung_self r hr, rung_self s hs] at this
      have : r = s := by omega
      subst this
      exact vle_at (vle_refl _ _) e

theorem mg_zero {r : Nat} (h : mg r = 0) : r = 0 := by unfold mg at h; split at h <;> omega

/-- The order of what is no NaN is the order of the signed rungs. -/
theorem order_eq (x y : Nat) (hx : rg x ≤ 9218868437227405312) (hy : rg y ≤ 9218868437227405312) : double.order x y = some (compare (sr x) (sr y)) := by
  unfold Format.order
  have hzero : ∀ r u : Nat, mg r * 2 ^ u = 0 ↔ r = 0 := fun r u => by
    constructor
    · intro h
      have := Nat.two_pow_pos u
      rcases Nat.mul_eq_zero.1 h with h | h
      · exact mg_zero h
      · omega
    · rintro rfl; simp [mg]
  by_cases ix : rg x = 9218868437227405312
  · rw [read_inf x ix]
    by_cases iy : rg y = 9218868437227405312
    · rw [read_inf y iy]
      unfold sr
      rw [ix, iy]
      cases sg x <;> cases sg y <;> rfl
    · rw [read_fin y (by omega)]
      show some (if sg x = true then Ordering.lt else .gt) = _
      unfold sr
      rw [ix]
      generalize rg y = s at *
      cases sg x <;> cases sg y
      · exact congrArg some (cmp_gt (by simp; omega)).symm
      · exact congrArg some (cmp_gt (by simp; omega)).symm
      · exact congrArg some (cmp_lt (by simp; omega)).symm
      · exact congrArg some (cmp_lt (by simp; omega)).symm
  · by_cases iy : rg y = 9218868437227405312
    · rw [read_inf y iy, read_fin x (by omega)]
      show some (if sg y = true then Ordering.gt else .lt) = _
      unfold sr
      rw [iy]
      generalize rg x = s at *
      cases sg x <;> cases sg y
      · exact congrArg some (cmp_lt (by simp; omega)).symm
      · exact congrArg some (cmp_gt (by simp; omega)).symm
      · exact congrArg some (cmp_lt (by simp; omega)).symm
      · exact congrArg some (cmp_gt (by simp; omega)).symm
    · have fx : rg x < 9218868437227405312 := by omega
      have fy : rg y < 9218868437227405312 := by omega
      rw [read_fin x fx, read_fin y fy]
      show some (compare (signed (sg x) (mg (rg x)) (pl (rg x) - min (pl (rg x)) (pl (rg y))).toNat) (signed (sg y) (mg (rg y)) (pl (rg y) - min (pl (rg x)) (pl (rg y))).toNat)) = _
      rw [signed_eq, signed_eq]
      generalize hu : (pl (rg x) - min (pl (rg x)) (pl (rg y))).toNat = u
      generalize hv : (pl (rg y) - min (pl (rg x)) (pl (rg y))).toNat = v
      have n1 := num_le fx fy (x := u) (y := v) (by omega)
      have n2 := num_le fy fx (x := v) (y := u) (by omega)
      have z1 := hzero (rg x) u
      have z2 := hzero (rg y) v
      generalize mg (rg x) * 2 ^ u = A at *
      generalize mg (rg y) * 2 ^ v = B at *
      congr 1
      unfold sr
      generalize rg x = r at *
      generalize rg y = s at *
      apply compare_congr
      · cases sg x <;> cases sg y <;> simp <;> omega
      · cases sg x <;> cases sg y <;> simp <;> omega
end FK
