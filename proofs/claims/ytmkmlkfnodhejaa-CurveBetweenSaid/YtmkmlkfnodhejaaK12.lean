/-
  Doubles: More on doubles.
-/
import Derived.Test.YtmkmlkfnodhejaaK11
open Ieee
namespace FK
set_option linter.unusedVariables false

theorem cut_down (s : Bool) (n drop : Nat) : Toward.down.cut s n drop = n / 2 ^ drop + (if s = true ∧ n % 2 ^ drop ≠ 0 then 1 else 0) := by
  unfold Toward.cut
  by_cases h : drop ≤ n.log2 + 2
  · rw [show min drop (n.log2 + 2) = drop from by omega]
    simp only [Nat.one_shiftLeft]
    cases s <;> simp
    by_cases h2 : n % 2 ^ drop = 0 <;> simp [h2]
  · rw [show min drop (n.log2 + 2) = n.log2 + 2 from by omega]
    have hn : n < 2 ^ (n.log2 + 1) := Nat.lt_log2_self
    have h1 : n < 2 ^ (n.log2 + 2) := Nat.lt_of_lt_of_le hn (Nat.pow_le_pow_right (by omega) (by omega))
    have h2 : n < 2 ^ drop := Nat.lt_of_lt_of_le h1 (Nat.pow_le_pow_right (by omega) (by omega))
    simp only [Nat.one_shiftLeft]
    rw [Nat.div_eq_of_lt h1, Nat.mod_eq_of_lt h1, Nat.div_eq_of_lt h2, Nat.mod_eq_of_lt h2]
    cases s <;> simp
    by_cases h3 : n = 0 <;> simp [h3]

/-- The floor of a number, as a word. -/
def FL (x : Nat) : Nat := double.write ((double.read x).integral .down)
/-- The whole part of a rung, a unit more where something is left of a negative one. -/
def NF (s : Bool) (r : Nat) : Nat := M r / 2 ^ 1074 + (if s = true ∧ M r % 2 ^ 1074 ≠ 0 then 1 else 0)
theorem FL_fin (x : Nat) (hx : rg x < 9218868437227405312) : FL x = mkw (sg x) (rung (NF (sg x) (rg x)) 0) := by
  unfold FL
  rw [read_fin x hx]
  show double.nearest _ _ _ = _
  rw [nearest_eq, word_eq, cut_down]
  congr 2
  unfold NF M
  generalize mg (rg x) = m
  have hp := pl_ge (rg x)
  generalize pl (rg x) = p at *
  by_cases h : 0 ≤ p
  · have e1 : (-p).toNat = 0 := by omega
    have e2 : (p + 1074).toNat = p.toNat + 1074 := by omega
    rw [e1, e2, Nat.shiftLeft_eq, Nat.pow_add, ← Nat.mul_assoc, Nat.mul_div_cancel _ (Nat.two_pow_pos 1074), Nat.mul_mod_left]
    simp [Nat.mod_one]
  · have e1 : p.toNat = 0 := by omega
    obtain ⟨q, hq⟩ : ∃ q : Nat, p = -(q : Int) := ⟨(-p).toNat, by omega⟩
    subst hq
    have e2 : (-(-(q : Int))).toNat = q := by omega
    have e3 : (-(q : Int) + 1074).toNat = 1074 - q := by omega
    rw [e1, e2, e3, Nat.shiftLeft_eq, Nat.pow_zero, Nat.mul_one]
    have e4 : 2 ^ 1074 = 2 ^ q * 2 ^ (1074 - q) := by rw [← Nat.pow_add]; congr 1; omega
    rw [e4, Nat.mul_div_mul_right _ _ (Nat.two_pow_pos _), Nat.mul_mod_mul_right]
    have hpos : 0 < 2 ^ (1074 - q) := Nat.two_pow_pos _
    by_cases h3 : m % 2 ^ q = 0
    · simp [h3]
    · have : m % 2 ^ q * 2 ^ (1074 - q) ≠ 0 := Nat.mul_ne_zero h3 (by omega)
      simp [h3, this]

theorem M_one : M 4607182418800017408 = 2 ^ 1074 := by decide +kernel
theorem M_half : M 4602678819172646912 = 2 ^ 1073 := by decide +kernel
theorem M_52 : M 4841369599423283200 = 2 ^ (52 + 1074) := by decide +kernel
theorem div_lt_pow {m a b : Nat} (h : m < 2 ^ (a + b)) : m / 2 ^ b < 2 ^ a := by
  rw [Nat.div_lt_iff_lt_mul (Nat.two_pow_pos b), ← Nat.pow_add]; exact h

/-- What a whole number's rung is worth. -/
theorem M_whole {n : Nat} (h : n < 9007199254740992) : rung n 0 < 9218868437227405312 ∧ M (rung n 0) = n * 2 ^ 1074 :=
  by
  have := rung_exact n 0 h (by decide) (by decide)
  rwa [show ((0 : Int) + 1074).toNat = 1074 from rfl] at this
theorem mul_pow_inj {a b : Nat} (k : Nat) (h : a * 2 ^ k = b * 2 ^ k) : a = b := Nat.eq_of_mul_eq_mul_right (Nat.two_pow_pos _) h

theorem NF_rung (s : Bool) (r : Nat) (hr : r < 9218868437227405312) : rung (NF s r) 0 < 9218868437227405312 ∧ M (rung (NF s r) 0) = NF s r * 2 ^ 1074 := by
  by_cases h : r < 4841369599423283200
  · have hm : M r < 2 ^ (52 + 1074) := by
      have := (M_mono_iff (r := 4841369599423283200) (s := r) (by decide) hr)
      rw [M_52] at this
      omega
    have hn : M r / 2 ^ 1074 < 2 ^ 52 := @div_lt_pow (M r) 52 1074 hm
    refine M_whole ?_
    unfold NF
    split <;> omega
  · -- a great one is whole
    have hp : 0 ≤ pl r := by unfold pl; split <;> omega
    have e : M r = mg r * 2 ^ (pl r).toNat * 2 ^ 1074 := by
      unfold M
      rw [show (pl r + 1074).toNat = (pl r).toNat + 1074 from by omega, Nat.pow_add, Nat.mul_assoc]
    have e2 : NF s r = mg r * 2 ^ (pl r).toNat := by
      unfold NF
      rw [e, Nat.mul_div_cancel _ (Nat.two_pow_pos 1074), Nat.mul_mod_left]
      simp
    rw [e2]
    have e3 : rung (mg r * 2 ^ (pl r).toNat) 0 = r := by
      have := rung_scale (mg r) (pl r) (pl r).toNat
      rw [show pl r - ((pl r).toNat : Int) = 0 from by omega] at this
      rw [this, rung_self r hr]
    rw [e3]
    exact ⟨hr, e⟩

/-- What is left of a number above its floor. -/
def Fr (x : Nat) : Nat := if sg x then NF true (rg x) * 2 ^ 1074 - M (rg x) else M (rg x) % 2 ^ 1074
theorem Fr_lt (x : Nat) : Fr x < 2 ^ 1074 := by
  unfold Fr NF
  generalize M (rg x) = m
  have hp : 0 < 2 ^ 1074 := Nat.two_pow_pos 1074
  generalize 2 ^ 1074 = H at *
  have hd := Nat.div_add_mod m H
  have hm := Nat.mod_lt m hp
  split
  · by_cases h : m % H = 0
    · simp only [h]
      simp
      rw [h] at hd
      have : m / H * H = m := by rw [Nat.mul_comm]; omega
      omega
    · simp only [h, ne_eq, not_false_eq_true, and_self, if_true]
      rw [Nat.add_mul, Nat.mul_comm]
      omega
  · exact hm

theorem sub_floor (x : Nat) (hx : rg x < 9218868437227405312) : double.sub x (FL x) = some (R (Fr x)) := by
  obtain ⟨h1, h2⟩ := NF_rung (sg x) (rg x) hx
  have e := FL_fin x hx
  have hr : rg (FL x) = rung (NF (sg x) (rg x)) 0 := by rw [e]; exact rg_mkw _ _ (by omega)
  have hs : sg (FL x) = sg x := by rw [e]; exact sg_mkw _ _ (by omega)
  rw [sub_fin x (FL x) hx (by rw [hr]; exact h1), hs]
  have hv : V x - V (FL x) = (Fr x : Int) := by
    unfold V Fr
    rw [hs, hr, h2]
    unfold NF
    generalize M (rg x) = m
    have hp : 0 < 2 ^ 1074 := Nat.two_pow_pos 1074
    generalize 2 ^ 1074 = H at *
    have hd := Nat.div_add_mod m H
    have hm := Nat.mod_lt m hp
    have hc : H * (m / H) = m / H * H := Nat.mul_comm _ _
    cases sg x with
    | false =>
      simp only [Bool.false_eq_true, if_false, false_and, Nat.add_zero]
      omega
    | true =>
      simp only [if_true, true_and]
      by_cases h : m % H = 0
      · simp only [h, ne_eq, not_true_eq_false, if_false, Nat.add_zero]
        rw [h] at hd
        omega
      · simp only [h, ne_eq, not_false_eq_true, if_true]
        rw [Nat.add_mul, Nat.one_mul]
        omega
  rw [hv]
  have e1 : ((Fr x : Int)).natAbs = Fr x := by omega
  rw [e1, show decide ((Fr x : Int) < 0) = false from decide_eq_false (by omega)]
  have : (if (Fr x : Int) = 0 then sg x && !sg x else false) = false := by cases sg x <;> simp
  rw [this, mkf]

theorem R_le_one {n : Nat} (h : n ≤ 2 ^ 1074) : R n ≤ 4607182418800017408 := by
  have := R_mono h
  rwa [← M_one, R_M _ (by decide)] at this
/-- A part less one. -/
theorem sub_one {x : Nat} (h : x ≤ 4607182418800017408) : double.sub x 4607182418800017408 = some (if x = 4607182418800017408 then 0 else mkw true (Left x)) := by
  have hu := w_pos (x := x) (by omega)
  have ho := w_pos (x := 4607182418800017408) (by decide)
  have hM := (M_mono_iff (r := x) (s := 4607182418800017408) (by omega) (by decide)).2 h
  rw [sub_fin x _ (by rw [hu.1]; omega) (by decide), V_pos (by omega), V_pos (by decide), hu.2, ho.2]
  by_cases hx : x = 4607182418800017408
  · subst hx
    rw [if_pos rfl, Int.sub_self, if_pos rfl]
    rfl
  · rw [if_neg hx]
    have hlt : M x < M 4607182418800017408 := by
      rcases Nat.lt_or_ge (M x) (M 4607182418800017408) with h1 | h1
      · exact h1
      · have := (M_mono_iff (r := 4607182418800017408) (s := x) (by decide) (by omega)).1 h1
        omega
    unfold Left
    generalize M 4607182418800017408 = H at *
    rw [if_neg (by omega), show decide ((M x : Int) - (H : Nat) < 0) = true from decide_eq_true (by omega)]
    congr 3
    omega
end FK
