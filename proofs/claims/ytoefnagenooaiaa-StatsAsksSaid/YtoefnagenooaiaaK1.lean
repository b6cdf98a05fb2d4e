/-
  Doubles: Rounding to the nearest, ties to even, is monotone.
-/
import Ieee.Arith
import Derived.Laws.FloatBits
namespace FK
set_option linter.unusedVariables false
open Ieee

/-- n / g to the nearest whole number, ties to even. -/
def rne (n g : Nat) : Nat := n / g + (if g < 2 * (n % g) ∨ (g = 2 * (n % g) ∧ n / g % 2 = 1) then 1 else 0)

theorem rne_exact (q g : Nat) (hg : 0 < g) : rne (q * g) g = q := by
  unfold rne
  rw [Nat.mul_div_cancel _ hg, Nat.mul_mod_left, if_neg (by omega)]
  rfl

/-- What rounding gives is near: and where it is just between, even. -/
theorem rne_spec (n g : Nat) (hg : 0 < g) :
    2 * n ≤ (2 * rne n g + 1) * g ∧ 2 * (rne n g) * g ≤ 2 * n + g ∧
    (2 * n = (2 * rne n g + 1) * g → rne n g % 2 = 0) ∧ (2 * (rne n g) * g = 2 * n + g → rne n g % 2 = 0) := by
  have h1 := Nat.div_add_mod n g
  have h2 := Nat.mod_lt n hg
  unfold rne
  generalize n / g = q at *
  generalize n % g = r at *
  have e1 : (2 * q + 1) * g = 2 * (g * q) + g := by rw [Nat.add_mul, Nat.mul_assoc, Nat.mul_comm q g]; omega
  have e2 : 2 * q * g = 2 * (g * q) := by rw [Nat.mul_assoc, Nat.mul_comm q g]
  have e3 : (2 * (q + 1) + 1) * g = 2 * (g * q) + 3 * g := by
    rw [Nat.add_mul, Nat.mul_assoc, Nat.add_mul, Nat.mul_comm q g]; omega
  have e4 : 2 * (q + 1) * g = 2 * (g * q) + 2 * g := by
    rw [Nat.mul_assoc, Nat.add_mul, Nat.mul_comm q g]; omega
  split
  · rw [e3, e4]
    refine ⟨by omega, by omega, fun h => by omega, fun h => by omega⟩
  · simp only [Nat.add_zero]
    rw [e1, e2]
    refine ⟨by omega, by omega, fun h => by omega, fun h => by omega⟩

theorem rne_mono {n1 g1 n2 g2 : Nat} (h1 : 0 < g1) (h2 : 0 < g2) (h : n1 * g2 ≤ n2 * g1) : rne n1 g1 ≤ rne n2 g2 := by
  obtain ⟨a1, a2, a3, a4⟩ := rne_spec n1 g1 h1
  obtain ⟨b1, b2, b3, b4⟩ := rne_spec n2 g2 h2
  generalize rne n1 g1 = p at *
  generalize rne n2 g2 = q at *
  apply Classical.byContradiction
  intro hpq
  have hpq' : q + 1 ≤ p := by omega
  -- 2 p g1 ≤ 2 n1 + g1,  2 n2 ≤ (2 q + 1) g2
  have k1 : 2 * p * g1 * g2 ≤ (2 * n1 + g1) * g2 := Nat.mul_le_mul_right _ a2
  have k2 : 2 * n2 * g1 ≤ (2 * q + 1) * g2 * g1 := Nat.mul_le_mul_right _ b1
  have k3 : 2 * (q + 1) * g1 * g2 ≤ 2 * p * g1 * g2 := Nat.mul_le_mul_right _ (Nat.mul_le_mul_right _ (by omega))
  have hG : 0 < g1 * g2 := Nat.mul_pos h1 h2
  have f1 : (2 * n1 + g1) * g2 = 2 * (n1 * g2) + g1 * g2 := by rw [Nat.add_mul, Nat.mul_assoc]
  have f2 : 2 * n2 * g1 = 2 * (n2 * g1) := by rw [Nat.mul_assoc]
  have f3 : (2 * q + 1) * g2 * g1 = 2 * q * (g1 * g2) + g1 * g2 := by rw [Nat.mul_assoc, Nat.mul_comm g2 g1, Nat.add_mul]; omega
  have f4 : 2 * (q + 1) * g1 * g2 = 2 * q * (g1 * g2) + 2 * (g1 * g2) := by rw [Nat.mul_assoc, Nat.mul_add, Nat.add_mul]
  have f5 : 2 * p * g1 * g2 = 2 * p * (g1 * g2) := by rw [Nat.mul_assoc]
  have f6 : 2 * n1 * g2 = 2 * (n1 * g2) := by rw [Nat.mul_assoc]
  -- all are equal
  have t1 : 2 * p * g1 * g2 = (2 * n1 + g1) * g2 := by omega
  have t2 : 2 * n2 * g1 = (2 * q + 1) * g2 * g1 := by omega
  have t3 : 2 * (q + 1) * g1 * g2 = 2 * p * g1 * g2 := by omega
  have u1 : 2 * p * g1 = 2 * n1 + g1 := Nat.eq_of_mul_eq_mul_right h2 t1
  have u2 : 2 * n2 = (2 * q + 1) * g2 := Nat.eq_of_mul_eq_mul_right h1 t2
  have u3 : 2 * (q + 1) = 2 * p := Nat.eq_of_mul_eq_mul_right h1 (Nat.eq_of_mul_eq_mul_right h2 t3)
  have v1 := a4 u1
  have v2 := b3 u2
  omega

/-- The model's way to cut is rne. -/
theorem cut_even (neg : Bool) (n drop : Nat) : Toward.even.cut neg n drop = rne n (2 ^ drop) := by
  unfold Toward.cut
  simp only [Nat.one_shiftLeft]
  by_cases hd : drop ≤ n.log2 + 2
  · rw [Nat.min_eq_left hd]
    unfold rne
    congr 1
    by_cases c : 2 ^ drop < 2 * (n % 2 ^ drop) ∨ (2 ^ drop = 2 * (n % 2 ^ drop) ∧ n / 2 ^ drop % 2 = 1)
    · rw [if_pos c]
      rcases c with c | ⟨c1, c2⟩
      · simp [c]
      · simp [← c1, c2]
    · rw [if_neg c]
      have c1 : ¬ 2 ^ drop < 2 * (n % 2 ^ drop) := fun h => c (Or.inl h)
      have c2 : ¬ (2 ^ drop = 2 * (n % 2 ^ drop) ∧ n / 2 ^ drop % 2 = 1) := fun h => c (Or.inr h)
      simp only [decide_eq_false c1, Bool.false_or]
      by_cases c3 : 2 ^ drop = 2 * (n % 2 ^ drop)
      · have c4 : ¬ n / 2 ^ drop % 2 = 1 := fun h => c2 ⟨c3, h⟩
        simp [c4]
      · simp [c3]
  · have hmin : min drop (n.log2 + 2) = n.log2 + 2 := by omega
    rw [hmin]
    have hlt : n < 2 ^ (n.log2 + 1) := Nat.lt_log2_self
    have e1 : 2 ^ (n.log2 + 2) = 2 * 2 ^ (n.log2 + 1) := by rw [Nat.pow_succ]; omega
    have e2 : 2 ^ (n.log2 + 2) ≤ 2 ^ drop := Nat.pow_le_pow_right (by decide) (by omega)
    have d1 : n / 2 ^ (n.log2 + 2) = 0 := Nat.div_eq_of_lt (by omega)
    have m1 : n % 2 ^ (n.log2 + 2) = n := Nat.mod_eq_of_lt (by omega)
    have d2 : n / 2 ^ drop = 0 := Nat.div_eq_of_lt (by omega)
    have m2 : n % 2 ^ drop = n := Nat.mod_eq_of_lt (by omega)
    unfold rne
    rw [d1, m1, d2, m2, if_neg (by omega)]
    have c1 : ¬ 2 ^ (n.log2 + 2) < 2 * n := by omega
    simp [c1]

end FK
