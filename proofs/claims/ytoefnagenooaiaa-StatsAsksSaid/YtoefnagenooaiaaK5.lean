/-
  Doubles: Doubles that are whole multiples of a power of two: exact arithmetic.
-/
import Derived.Test.YtoefnagenooaiaaK4
import Derived.Laws.FloatArith
namespace FK
set_option linter.unusedVariables false
open Ieee

/-- The float n * 2 ^ p (positive zero for n = 0). -/
def D (n p : Int) : Nat := mkw (decide (n < 0)) (rung n.natAbs p)

/-- n * 2 ^ p can be written. -/
def Wr (n p : Int) : Prop := n.natAbs < 9007199254740992 ∧ -1074 ≤ p ∧ p ≤ 900

theorem rung_lt63 (m : Nat) (p : Int) : rung m p < 9223372036854775808 := by have := rung_le_inf m p; omega
theorem rg_D (n p : Int) : rg (D n p) = rung n.natAbs p := rg_mkw _ _ (rung_lt63 _ _)
theorem sg_D (n p : Int) : sg (D n p) = decide (n < 0) := sg_mkw _ _ (rung_lt63 _ _)
theorem D_lt (n p : Int) : D n p < 18446744073709551616 := by
  have := rung_lt63 n.natAbs p
  unfold D mkw; split <;> omega
theorem fin_D {n p : Int} (h : Wr n p) : rg (D n p) < 9218868437227405312 := by rw [rg_D]; exact (rung_exact _ _ h.1 h.2.1 h.2.2).1
theorem M_D {n p : Int} (h : Wr n p) : M (rg (D n p)) = n.natAbs * 2 ^ (p + 1074).toNat := by rw [rg_D]; exact (rung_exact _ _ h.1 h.2.1 h.2.2).2
theorem natAbs_cast (n : Int) (k : Nat) : (if decide (n < 0) = true then -((n.natAbs * 2 ^ k : Nat) : Int) else ((n.natAbs * 2 ^ k : Nat) : Int)) = n * 2 ^ k := by
  rw [Int.natCast_mul, Int.natCast_pow]
  have e : ((2 : Nat) : Int) = 2 := rfl
  rw [e]
  by_cases h : n < 0
  · rw [if_pos (by simpa using h), ← Int.neg_mul]; congr 1; omega
  · rw [if_neg (by simpa using h)]; congr 1; omega
theorem V_D {n p : Int} (h : Wr n p) : V (D n p) = n * 2 ^ (p + 1074).toNat := by
  unfold V
  rw [M_D h, sg_D]
  exact natAbs_cast n _

theorem D_scale (n p : Int) (k : Nat) : D (n * 2 ^ k) (p - k) = D n p := by
  unfold D
  have h1 : (n * 2 ^ k).natAbs = n.natAbs * 2 ^ k := by rw [Int.natAbs_mul, Int.natAbs_pow]; rfl
  have h2 : decide (n * 2 ^ k < 0) = decide (n < 0) := by
    rw [decide_eq_decide]
    have hp := pow_posI k
    constructor
    · intro h
      apply Classical.byContradiction
      intro hc
      have := Int.mul_nonneg (a := n) (b := 2 ^ k) (by omega) (by omega)
      omega
    · intro h; exact Int.mul_neg_of_neg_of_pos h hp
  rw [h1, h2, rung_scale]

theorem ofInt_D (a : Int) : Go.floatOfInt .f64 a = D a 0 := by
  show double.nearest (decide (a < 0)) a.natAbs 0 = _
  rw [nearest_eq, word_eq]; rfl

theorem mgM {r : Nat} (k : Nat) (n : Nat) (h : M r = n * 2 ^ k) : mg r * 2 ^ (pl r + 1074).toNat = n * 2 ^ k := h

theorem rung_as {m n : Nat} {p q : Int} {x y : Nat} (e : (x : Int) - y = p - q) (h : m * 2 ^ x = n * 2 ^ y) : rung m p = rung n q := by
  apply rung_eq_of
  · exact vle_of e (Nat.le_of_eq h)
  · exact vle_of (x := y) (y := x) (by omega) (Nat.le_of_eq h.symm)

theorem mul_D {n p m q : Int} (h1 : Wr n p) (h2 : Wr m q) :
    double.mul (D n p) (D m q) = some (mkw (decide (n < 0) ^^ decide (m < 0)) (rung (n.natAbs * m.natAbs) (p + q))) := by
  rw [mul_fin _ _ (fin_D h1) (fin_D h2), sg_D, sg_D]
  congr 2
  have a1 := M_D h1
  have a2 := M_D h2
  unfold M at a1 a2
  have b1 := pl_ge (rg (D n p))
  have b2 := pl_ge (rg (D m q))
  obtain ⟨_, c1, _⟩ := h1
  obtain ⟨_, c2, _⟩ := h2
  generalize mg (rg (D n p)) = A at *
  generalize mg (rg (D m q)) = B at *
  generalize pl (rg (D n p)) = i at *
  generalize pl (rg (D m q)) = j at *
  refine rung_as (x := (i + 1074).toNat + (j + 1074).toNat) (y := (p + 1074).toNat + (q + 1074).toNat) (by omega) ?_
  have e : ∀ a b c d : Nat, a * b * (c * d) = (a * c) * (b * d) := fun a b c d => by
    rw [Nat.mul_assoc, Nat.mul_assoc, Nat.mul_left_comm b c d]
  rw [Nat.pow_add, Nat.pow_add, e, a1, a2, e]

theorem D_of_nonzero {n m : Int} (hm : n * m ≠ 0) (r : Int) : mkw (decide (n < 0) ^^ decide (m < 0)) (rung (n.natAbs * m.natAbs) r) = D (n * m) r := by
  unfold D
  rw [Int.natAbs_mul]
  congr 1
  have hn0 : n ≠ 0 := fun h => hm (by rw [h, Int.zero_mul])
  have hm0 : m ≠ 0 := fun h => hm (by rw [h, Int.mul_zero])
  by_cases a : n < 0 <;> by_cases b : m < 0
  · have := Int.mul_pos_of_neg_of_neg a b
    simp [a, b]; omega
  · have := Int.mul_neg_of_neg_of_pos a (show 0 < m by omega)
    simp [a, b, this]
  · have := Int.mul_neg_of_pos_of_neg (show 0 < n by omega) b
    simp [a, b, this]
  · have := Int.mul_pos (show 0 < n by omega) (show 0 < m by omega)
    simp [a, b]; omega
theorem mul_D_pos {n p m q : Int} (h1 : Wr n p) (h2 : Wr m q) (hn : 0 ≤ n) (hm : 0 ≤ m) : double.mul (D n p) (D m q) = some (D (n * m) (p + q)) := by
  rw [mul_D h1 h2]
  by_cases h : n * m = 0
  · have e1 : n.natAbs * m.natAbs = 0 := by rw [← Int.natAbs_mul, h]; rfl
    have d1 : decide (n < 0) = false := by simp; omega
    have d2 : decide (m < 0) = false := by simp; omega
    rw [e1, d1, d2, h]; rfl
  · rw [D_of_nonzero h]
/-- Times a positive power of two (a float whose fraction is zero): exact as long as it is not too great; zero keeps its sign: here it has none. -/
theorem mul_D_pow {n p m q : Int} (h1 : Wr n p) (h2 : Wr m q) (hm : 0 < m) : double.mul (D n p) (D m q) = some (D (n * m) (p + q)) := by
  rw [mul_D h1 h2]
  by_cases h : n = 0
  · subst h
    have d2 : decide (m < 0) = false := by simp; omega
    rw [d2, Int.zero_mul]
    show some (mkw false (rung (0 * m.natAbs) (p + q))) = _
    rw [Nat.zero_mul]; rfl
  · rw [D_of_nonzero (fun hc => by rcases Int.mul_eq_zero.1 hc with hc | hc <;> omega)]

theorem add_D {n m p : Int} (h1 : Wr n p) (h2 : Wr m p) : double.add (D n p) (D m p) = some (D (n + m) p) := by
  rw [add_fin _ _ (fin_D h1) (fin_D h2), V_D h1, V_D h2, sg_D, sg_D, ← Int.add_mul]
  have hp := pow_posI (p + 1074).toNat
  have hr := rung_scale_int (n + m) p h1.2.1
  rw [← hr]
  congr 1
  unfold D
  congr 1
  by_cases h0 : n + m = 0
  · rw [h0, Int.zero_mul, if_pos rfl]
    by_cases a : n < 0
    · have : ¬ m < 0 := by omega
      simp [this]
    · simp [a]
  · rw [if_neg (fun hc => by rcases Int.mul_eq_zero.1 hc with hc | hc <;> omega), decide_eq_decide]
    constructor
    · intro h
      apply Classical.byContradiction
      intro hc
      have := Int.mul_nonneg (a := n + m) (b := 2 ^ (p + 1074).toNat) (by omega) (by omega)
      omega
    · intro h; exact Int.mul_neg_of_neg_of_pos h hp

theorem sub_D {n m p : Int} (h1 : Wr n p) (h2 : Wr m p) (hz : n - m = 0 → 0 ≤ n) : double.sub (D n p) (D m p) = some (D (n - m) p) := by
  rw [sub_fin _ _ (fin_D h1) (fin_D h2), V_D h1, V_D h2, sg_D, sg_D, ← Int.sub_mul]
  have hp := pow_posI (p + 1074).toNat
  have hr := rung_scale_int (n - m) p h1.2.1
  rw [← hr]
  congr 1
  unfold D
  congr 1
  by_cases h0 : n - m = 0
  · have := hz h0
    have a : ¬ n < 0 := by omega
    rw [h0, Int.zero_mul, if_pos rfl]; simp [a]
  · rw [if_neg (fun hc => by rcases Int.mul_eq_zero.1 hc with hc | hc <;> omega), decide_eq_decide]
    constructor
    · intro h
      apply Classical.byContradiction
      intro hc
      have := Int.mul_nonneg (a := n - m) (b := 2 ^ (p + 1074).toNat) (by omega) (by omega)
      omega
    · intro h; exact Int.mul_neg_of_neg_of_pos h hp

/-- Division by 2 ^ k, as a float y. -/
theorem div_D {n p : Int} (h1 : Wr n p) (y : Nat) (k : Int) (hy : rg y < 9218868437227405312) (hs : sg y = false) (hm : mg (rg y) = 4503599627370496) (hk : pl (rg y) = k - 52) :
    double.div (D n p) y = some (D n (p - k)) := by
  rw [div_pow _ _ (fin_D h1) hy hm, sg_D, hs, hk]
  have a1 := M_D h1
  have b1 := pl_ge (rg (D n p))
  obtain ⟨_, c1, _⟩ := h1
  unfold M at a1
  congr 1
  unfold D
  rw [Bool.xor_false]
  congr 1
  refine rung_as (x := (pl (rg (D n p)) + 1074).toNat) (y := (p + 1074).toNat) ?_ a1
  unfold D at b1
  unfold D
  omega

theorem order_D {n m p : Int} (h1 : Wr n p) (h2 : Wr m p) : double.order (D n p) (D m p) = some (compare n m) := by
  have f1 := fin_D h1
  have f2 := fin_D h2
  rw [order_eq _ _ (by omega) (by omega)]
  obtain ⟨l1, l2⟩ := sr_lt_V _ _ f1 f2
  rw [V_D h1, V_D h2] at l1 l2
  have hp := pow_posI (p + 1074).toNat
  generalize (2 : Int) ^ (p + 1074).toNat = P at *
  congr 1
  apply compare_congr
  · rw [l1]
    constructor
    · intro h; exact Int.lt_of_mul_lt_mul_right h (by omega)
    · intro h; exact Int.mul_lt_mul_of_pos_right h hp
  · rw [l2]
    constructor
    · intro h; exact Int.eq_of_mul_eq_mul_right (by omega) h
    · intro h; rw [h]
end FK
