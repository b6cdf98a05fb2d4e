/-
  Doubles: A stick: the way of a float from an eighth up to one.
-/
import Derived.Test.YtmkmlkfnodhejaaK6
namespace FK
set_option linter.unusedVariables false
open Ieee

theorem T_mono {r s : Nat} (hr : r < 9218868437227405312) (hs : s < 9218868437227405312) (h : r ≤ s) : T r ≤ T s := by
  have h1 := (num_le hr hs (x := (pl r).toNat + (-pl s).toNat) (y := (pl s).toNat + (-pl r).toNat) (by omega)).2 h
  unfold T
  rw [Nat.pow_add, Nat.pow_add, ← Nat.mul_assoc, ← Nat.mul_assoc] at h1
  generalize mg r * 2 ^ (pl r).toNat = a at *
  generalize mg s * 2 ^ (pl s).toNat = b at *
  have hx := Nat.two_pow_pos (-pl r).toNat
  have hy := Nat.two_pow_pos (-pl s).toNat
  generalize 2 ^ (-pl r).toNat = x at *
  generalize 2 ^ (-pl s).toNat = y at *
  -- a * y ≤ b * x
  have e1 : a / x = a * y / (x * y) := (Nat.mul_div_mul_right a x hy).symm
  have e2 : b / y = b * x / (x * y) := by
    have := (Nat.mul_div_mul_right b y hx).symm
    rwa [Nat.mul_comm y x] at this
  rw [e1, e2]
  exact Nat.div_le_div_right h1

/-- A product's rung grows with the one factor. -/
theorem prod_mono {r s : Nat} (c : Nat) (hr : r < 9218868437227405312) (hs : s < 9218868437227405312) (h : r ≤ s) :
    rung (mg r * mg c) (pl r + pl c) ≤ rung (mg s * mg c) (pl s + pl c) := by
  apply rung_mono
  obtain ⟨x, y, e⟩ : ∃ x y : Nat, (x : Int) - y = pl r - pl s := ⟨(pl r - pl s).toNat, (pl s - pl r).toNat, by omega⟩
  have h1 := (num_le hr hs e).2 h
  refine vle_of (x := x) (y := y) (by omega) ?_
  have : ∀ a k p : Nat, a * k * p = a * p * k := fun a k p => by rw [Nat.mul_assoc, Nat.mul_comm k p, Nat.mul_assoc]
  rw [this (mg r) (mg c) (2 ^ x), this (mg s) (mg c) (2 ^ y)]
  exact Nat.mul_le_mul_right _ h1

def rc : Nat := 4638637247447433216
def rh : Nat := 4602678819172646912
def r8 : Nat := 4593671619917905920
def r1 : Nat := 4607182418800017408

def A2 (r : Nat) : Nat := rung (mg r * mg rc) (pl r + pl rc)
def A3 (r : Nat) : Nat := R (M (A2 r) + M rh)
def A (r : Nat) : Nat := T (A3 r)

theorem A2_mono {r s : Nat} (hs : s < 9218868437227405312) (h : r ≤ s) : A2 r ≤ A2 s := prod_mono rc (by omega) hs h
theorem A2_r1 : A2 r1 = rc := by decide +kernel
theorem A2_fin {r : Nat} (h : r ≤ r1) : A2 r < 9218868437227405312 := by
  have := A2_mono (show r1 < 9218868437227405312 by decide) h
  rw [A2_r1] at this
  unfold rc at this; omega
theorem A3_mono {r s : Nat} (h : r ≤ s) (hs : s ≤ r1) : A3 r ≤ A3 s := by
  unfold A3
  apply R_mono
  have h1 := A2_mono (show s < 9218868437227405312 by unfold r1 at hs; omega) h
  have := (M_mono_iff (A2_fin (show r ≤ r1 by omega)) (A2_fin hs)).2 h1
  omega
theorem A3_r1 : A3 r1 = 4638672431819522048 := by decide +kernel
theorem A3_fin {r : Nat} (h : r ≤ r1) : A3 r < 9218868437227405312 := by
  have := A3_mono h (Nat.le_refl _)
  rw [A3_r1] at this; omega
theorem A_mono {r s : Nat} (h : r ≤ s) (hs : s ≤ r1) : A r ≤ A s := T_mono (A3_fin (by omega)) (A3_fin hs) (A3_mono h hs)
theorem A_r1 : A r1 = 127 := by decide +kernel
theorem A_r8 : A r8 = 16 := by decide +kernel
theorem A_bd {r : Nat} (h1 : r8 ≤ r) (h2 : r ≤ r1) : 16 ≤ A r ∧ A r ≤ 127 := by
  have a := A_mono h1 h2
  have b := A_mono h2 (Nat.le_refl _)
  rw [A_r8] at a; rw [A_r1] at b
  exact ⟨a, b⟩

theorem V_mkw (s : Bool) (r : Nat) (h : r < 9223372036854775808) : V (mkw s r) = if s then -(M r : Int) else M r := by
  unfold V; rw [sg_mkw _ _ h, rg_mkw _ _ h]

theorem toI8 (u : Nat) (h : rg u < 9218868437227405312) (hT : T (rg u) ≤ 127) :
    Go.floatToIntVal .f64 u .i8 = some (if sg u then -(T (rg u) : Int) else T (rg u)) := by
  unfold Go.floatToIntVal
  have ht : (Go.FloatKind.decode .f64 u).toInt .zero = some (if sg u then -(T (rg u) : Int) else T (rg u)) := toInt_fin u h
  rw [ht]
  simp only
  have emin : Go.IntKind.i8.min = -128 := by decide
  have emax : Go.IntKind.i8.max = 127 := by decide
  rw [emin, emax]
  cases sg u
  · simp only [Bool.false_eq_true, if_false]; rw [if_pos (by omega)]
  · simp only [if_true]; rw [if_pos (by omega)]

/-- The way of a float from an eighth up to one, of either sign. -/
theorem axis_core (f : Nat) (h1 : r8 ≤ rg f) (h2 : rg f < r1) :
    double.mul f 4638637247447433216 = some (mkw (sg f) (A2 (rg f))) ∧
    double.add (mkw (sg f) (A2 (rg f))) (mkw (sg f) rh) = some (mkw (sg f) (A3 (rg f))) ∧
    (sg f = true → double.sub (mkw (sg f) (A2 (rg f))) 4602678819172646912 = some (mkw (sg f) (A3 (rg f)))) ∧
    Go.floatToIntVal .f64 (mkw (sg f) (A3 (rg f))) .i8 = some (if sg f then -(A (rg f) : Int) else A (rg f)) := by
  have hr : rg f < 9218868437227405312 := by unfold r1 at h2; omega
  have ha2 := A2_fin (r := rg f) (by omega)
  have ha3 := A3_fin (r := rg f) (by omega)
  have hbd := A_bd (r := rg f) h1 (by omega)
  have hrh : rh < 9218868437227405312 := by decide
  have hMh : 0 < M rh := by
    have := M_eq_zero hrh
    have : M rh ≠ 0 := fun h => by have := this.1 h; revert this; decide
    omega
  have l2 : A2 (rg f) < 9223372036854775808 := by omega
  have l3 : A3 (rg f) < 9223372036854775808 := by omega
  have lh : rh < 9223372036854775808 := by decide
  refine ⟨?_, ?_, ?_, ?_⟩
  · rw [mul_fin f _ hr (by decide)]
    have e1 : sg 4638637247447433216 = false := by decide
    rw [e1, Bool.xor_false]; rfl
  · rw [add_fin _ _ (by rw [rg_mkw _ _ l2]; exact ha2) (by rw [rg_mkw _ _ lh]; exact hrh), V_mkw _ _ l2, V_mkw _ _ lh, sg_mkw _ _ l2, sg_mkw _ _ lh]
    unfold A3
    generalize M rh = H at *
    generalize M (A2 (rg f)) = G at *
    cases sg f
    · simp only [Bool.false_eq_true, if_false]
      have e : decide ((G : Int) + H < 0) = false := by simp; omega
      have e2 : ((G : Int) + H).natAbs = G + H := by omega
      rw [if_neg (by omega), e, e2]
    · simp only [if_true]
      have e : decide (-(G : Int) + -(H : Int) < 0) = true := by simp; omega
      have e2 : (-(G : Int) + -(H : Int)).natAbs = G + H := by omega
      rw [if_neg (by omega), e, e2]
  · intro hs
    have lh' : rg 4602678819172646912 = rh := by decide
    have sh : sg 4602678819172646912 = false := by decide
    have Vh : V 4602678819172646912 = M rh := by unfold V; rw [sh, lh']; rfl
    rw [sub_fin _ _ (by rw [rg_mkw _ _ l2]; exact ha2) (by decide), V_mkw _ _ l2, Vh, sg_mkw _ _ l2, hs, sh]
    simp only [if_true]
    unfold A3
    generalize M rh = H at *
    generalize M (A2 (rg f)) = G at *
    have e : decide (-(G : Int) - (H : Int) < 0) = true := by simp; omega
    have e2 : (-(G : Int) - (H : Int)).natAbs = G + H := by omega
    rw [if_neg (by omega), e, e2]
  · have := toI8 (mkw (sg f) (A3 (rg f))) (by rw [rg_mkw _ _ l3]; exact ha3) (by rw [rg_mkw _ _ l3]; exact hbd.2)
    rw [rg_mkw _ _ l3, sg_mkw _ _ l3] at this
    exact this
end FK
