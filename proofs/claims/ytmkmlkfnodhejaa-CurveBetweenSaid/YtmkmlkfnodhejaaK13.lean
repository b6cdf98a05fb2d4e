/-
  Doubles: 
-/
import Derived.Test.YtmkmlkfnodhejaaK12
import Derived.Test.YtmkmlkfnodhejaaK7
open Ieee
namespace FK
set_option linter.unusedVariables false

/-- The product of two positive words. -/
def P (r s : Nat) : Nat := rung (mg r * mg s) (pl r + pl s)
theorem P_comm (r s : Nat) : P r s = P s r := by unfold P; rw [Nat.mul_comm, Int.add_comm]
theorem P_mono {r s : Nat} (c : Nat) (hr : r < 9218868437227405312) (hs : s < 9218868437227405312) (h : r ≤ s) : P r c ≤ P s c := prod_mono c hr hs h
theorem mul_P {r s : Nat} (hr : r < 9218868437227405312) (hs : s < 9218868437227405312) : double.mul r s = some (P r s) := by
  obtain ⟨a1, a2⟩ := w_pos hr
  obtain ⟨b1, b2⟩ := w_pos hs
  rw [mul_fin r s (by rw [a1]; exact hr) (by rw [b1]; exact hs), a2, b2, a1, b1, mk_xff, P]
theorem P_one {u : Nat} (hu : u < 9218868437227405312) : P 4607182418800017408 u = u := by
  unfold P
  rw [show mg 4607182418800017408 = 2 ^ 52 from by decide, show pl 4607182418800017408 = -52 from by decide, Nat.mul_comm]
  have := rung_scale (mg u) (pl u) 52
  rw [show (-52 : Int) + pl u = pl u - (52 : Nat) from by omega, this, rung_self u hu]

structure EaseB (u s d v e : Nat) : Prop where
  h1 : double.mul u u = some s
  h2 : double.mul 4611686018427387904 u = some d
  h3 : double.sub 4613937818241073152 d = some v
  h4 : double.mul s v = some e
  es : s = P u u
  ed : d = P 4611686018427387904 u
  ev : v = R (M 4613937818241073152 - M d)
  ee : e = P s v
  le_s : s ≤ u
  le_v : v ≤ 4613937818241073152
  le_e : e ≤ 4613937818241073152

theorem ease_ex {u : Nat} (hu : u ≤ 4607182418800017408) : ∃ s d v e, EaseB u s d v e := by
  have hs : P u u ≤ u := by
    have := P_mono (r := u) (s := 4607182418800017408) u (by omega) (by decide) hu
    rwa [P_one (by omega)] at this
  have hd : P 4611686018427387904 u ≤ 4611686018427387904 := by
    have := P_mono (r := u) (s := 4607182418800017408) 4611686018427387904 (by omega) (by decide) hu
    rw [P_one (by decide), P_comm] at this
    exact this
  have hM := (M_mono_iff (r := P 4611686018427387904 u) (s := 4613937818241073152) (by omega) (by decide)).2 (by omega)
  have hne : M (P 4611686018427387904 u) ≠ M 4613937818241073152 := by
    intro e
    have := (M_mono_iff (r := 4613937818241073152) (s := P 4611686018427387904 u) (by decide) (by omega)).1 (by omega)
    omega
  have hv : R (M 4613937818241073152 - M (P 4611686018427387904 u)) ≤ 4613937818241073152 := by
    have : R (M 4613937818241073152 - M (P 4611686018427387904 u)) ≤ R (M 4613937818241073152) := R_mono (Nat.sub_le _ _)
    rwa [R_M _ (by decide)] at this
  have h3 : double.sub 4613937818241073152 (P 4611686018427387904 u) = some (R (M 4613937818241073152 - M (P 4611686018427387904 u))) := by
    have hw := w_pos (x := P 4611686018427387904 u) (by omega)
    rw [sub_fin _ _ (by decide) (by rw [hw.1]; omega), V_pos (by decide), V_pos (by omega)]
    generalize M 4613937818241073152 = A at *
    generalize M (P 4611686018427387904 u) = B at *
    rw [if_neg (by omega), show decide ((A : Int) - B < 0) = false from decide_eq_false (by omega), mkf]
    congr 2
    omega
  have he : P (P u u) (R (M 4613937818241073152 - M (P 4611686018427387904 u))) ≤ 4613937818241073152 := by
    have h1 := P_mono (r := P u u) (s := 4607182418800017408) (R (M 4613937818241073152 - M (P 4611686018427387904 u))) (by omega) (by decide) (by omega)
    rw [P_one (by omega)] at h1
    omega
  exact ⟨_, _, _, _, ⟨mul_P (by omega) (by omega), mul_P (by decide) (by omega), h3, mul_P (by omega) (by omega), rfl, rfl, rfl, rfl, hs, hv, he⟩⟩
end FK
