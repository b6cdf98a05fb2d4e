/-
  Doubles: 
-/
import Derived.Test.YtmkmlkfnodhejaaK13
open Ieee
namespace FK
set_option linter.unusedVariables false

theorem poly_id (B k : Int) : ((2 * B - k) * (2 * B - k) + (2 * B - 1)) * (B + k) = 4 * (B * B * B) - 3 * (B * (k * k)) + k * (k * k) + (2 * B - 1) * (B + k) := by
  grind
theorem poly_le (B k : Int) (h0 : 0 ≤ k) (h1 : k ≤ B) (hB : 1 ≤ B) : ((2 * B - k) * (2 * B - k) + (2 * B - 1)) * (B + k) ≤ (B + 1) * (2 * B) * (2 * B) := by
  rw [poly_id]
  have h2 : 0 ≤ k * k := Int.mul_nonneg h0 h0
  have h3 : k * (k * k) ≤ B * (k * k) := Int.mul_le_mul_of_nonneg_right h1 h2
  have h4 : 0 ≤ B * (k * k) := Int.mul_nonneg (by omega) h2
  have h5 : (2 * B - 1) * (B + k) ≤ (2 * B) * (2 * B) := Int.mul_le_mul (by omega) (by omega) (by omega) (by omega)
  have e : (B + 1) * (2 * B) * (2 * B) = 4 * (B * B * B) + (2 * B) * (2 * B) := by grind
  omega

theorem qn_le (m q : Nat) (h1 : 4503599627370496 ≤ m) (h2 : m < 9007199254740992) (hq : q * 9007199254740992 ≤ m * m + 9007199254740991) : q * (13510798882111488 - m) ≤ 4503599627370497 * 9007199254740992 := by
  have hp := poly_le 4503599627370496 ((9007199254740992 - m : Nat) : Int) (by omega) (by omega) (by omega)
  obtain ⟨n, hn⟩ : ∃ n, n = 13510798882111488 - m := ⟨_, rfl⟩
  rw [← hn]
  have e1 : (2 * 4503599627370496 - ((9007199254740992 - m : Nat) : Int)) = (m : Int) := by omega
  have e2 : ((4503599627370496 : Int) + ((9007199254740992 - m : Nat) : Int)) = (n : Int) := by omega
  rw [e1, e2] at hp
  have hp2 : (m * m + 9007199254740991) * n ≤ 4503599627370497 * 9007199254740992 * 9007199254740992 := by
    have : (((m * m + 9007199254740991) * n : Nat) : Int) ≤ 4503599627370497 * 9007199254740992 * 9007199254740992 := by
      rw [Int.natCast_mul, Int.natCast_add, Int.natCast_mul]
      exact hp
    omega
  have h3 : q * 9007199254740992 * n ≤ (m * m + 9007199254740991) * n := Nat.mul_le_mul_right n hq
  have h4 : q * 9007199254740992 * n = q * n * 9007199254740992 := by rw [Nat.mul_assoc, Nat.mul_comm 9007199254740992 n, ← Nat.mul_assoc]
  rw [h4] at h3
  exact Nat.le_of_mul_le_mul_right (Nat.le_trans h3 hp2) (by decide)

theorem ease_low {u s d v e : Nat} (hu : u ≤ 4602678819172646912) (h : EaseB u s d v e) : e ≤ 4607182418800017408 := by
  have h1 : P u u ≤ 4598175219545276416 := by
    have a := P_mono (r := u) (s := 4602678819172646912) u (by omega) (by decide) hu
    have b := P_mono (r := u) (s := 4602678819172646912) 4602678819172646912 (by omega) (by decide) hu
    rw [P_comm u 4602678819172646912] at b
    have c : P 4602678819172646912 4602678819172646912 = 4598175219545276416 := by decide +kernel
    omega
  have hv := h.le_v
  have a := P_mono (r := s) (s := 4598175219545276416) v (by rw [h.es]; omega) (by decide) (by rw [h.es]; exact h1)
  have b := P_mono (r := v) (s := 4613937818241073152) 4598175219545276416 (by omega) (by decide) hv
  rw [P_comm v 4598175219545276416] at b
  have c : P 4613937818241073152 4598175219545276416 = 4604930618986332160 := by decide +kernel
  rw [h.ee]
  omega

set_option exponentiation.threshold 2100 in
theorem M_three : M 4613937818241073152 = 13510798882111488 * 2 ^ 1022 := by
  have a : mg 4613937818241073152 = 6755399441055744 := by decide
  have b : (pl 4613937818241073152 + 1074).toNat = 1 + 1022 := by decide
  unfold M
  rw [a, b, Nat.pow_add, ← Nat.mul_assoc]

theorem sq_up (m : Nat) (h : m < 9007199254740992) : ∃ q, q < 9007199254740992 ∧ m * m ≤ q * 9007199254740992 ∧ q * 9007199254740992 ≤ m * m + 9007199254740991 := by
  have hm : m ≤ 9007199254740991 := by omega
  have hmm : m * m ≤ 9007199254740991 * 9007199254740991 := Nat.mul_le_mul hm hm
  rw [show 9007199254740991 * 9007199254740991 = 81129638414606663681390495662081 from rfl] at hmm
  generalize m * m = s at hmm
  refine ⟨(s + 9007199254740991) / 9007199254740992, ?_, ?_, ?_⟩ <;> omega
set_option maxHeartbeats 1000000 in
set_option exponentiation.threshold 2100 in
theorem ease_high {u s d v e : Nat} (hu : 4602678819172646912 < u) (hu2 : u < 4607182418800017408) (h : EaseB u s d v e) : e ≤ 4607182418800017409 := by
  obtain ⟨m, hm⟩ : ∃ m, mg u = m := ⟨_, rfl⟩
  have hm1 : 4503599627370497 ≤ m ∧ m < 9007199254740992 := by rw [← hm]; unfold mg; rw [if_neg (by omega)]; omega
  have hpl : pl u = -53 := by unfold pl; rw [if_neg (by omega)]; omega
  -- the square, rounded up
  obtain ⟨q, hq1, hq2, hq3⟩ := sq_up m hm1.2
  -- the third less twice
  have hd : d = rung m (-52) := by
    rw [h.ed]
    unfold P
    rw [show mg 4611686018427387904 = 2 ^ 52 from by decide, show pl 4611686018427387904 = -51 from by decide, hm, hpl]
    first
      | rw [show ((-51 : Int) + -53) = -52 - ((52 : Nat) : Int) from by decide, Nat.mul_comm (2 ^ 52) m]
      | rw [show ((-53 : Int) + -51) = -52 - ((52 : Nat) : Int) from by decide]
    exact rung_scale m (-52) 52
  have hMd : M d = m * 2 ^ 1022 := by
    rw [hd]
    have := (rung_exact m (-52) hm1.2 (by decide) (by decide)).2
    rwa [show ((-52 : Int) + 1074).toNat = 1022 from rfl] at this
  obtain ⟨n, hn⟩ : ∃ n, n = 13510798882111488 - m := ⟨_, rfl⟩
  have hv : v = rung n (-52) := by
    rw [h.ev, M_three, hMd, ← Nat.sub_mul, ← hn]
    unfold R
    rw [show (-1074 : Int) = -52 - ((1022 : Nat) : Int) from by decide]
    exact rung_scale n (-52) 1022
  obtain ⟨hvf, hMv⟩ := rung_exact n (-52) (by omega) (by decide) (by decide)
  rw [← hv] at hvf hMv
  obtain ⟨htf, hMt⟩ := rung_exact q (-53) hq1 (by decide) (by decide)
  have hst : s ≤ rung q (-53) := by
    rw [h.es]
    unfold P
    rw [hm, hpl]
    exact rung_mono (vle_of (x := 0) (y := 53) (by decide) (by rw [Nat.pow_zero, Nat.mul_one]; exact hq2))
  generalize rung q (-53) = t at *
  have hsf : s < 9218868437227405312 := by have := h.le_s; omega
  have hPt := P_mono (r := s) (s := t) v hsf htf hst
  rw [h.ee]
  refine Nat.le_trans hPt ?_
  have hone : rung 4503599627370497 (-52) = 4607182418800017409 := by decide +kernel
  rw [← hone]
  have g1 := pl_ge t
  have g2 := pl_ge v
  have key : mg t * mg v * 2 ^ ((pl t + 1074).toNat + (pl v + 1074).toNat) = q * n * 2 ^ (1021 + 1022) := by
    have a : mg t * 2 ^ (pl t + 1074).toNat = q * 2 ^ 1021 := hMt
    have b : mg v * 2 ^ (pl v + 1074).toNat = n * 2 ^ 1022 := hMv
    rw [Nat.pow_add, Nat.pow_add 2 1021 1022]
    generalize 2 ^ (pl t + 1074).toNat = x at *
    generalize 2 ^ (pl v + 1074).toNat = y at *
    generalize 2 ^ 1021 = z at *
    generalize 2 ^ 1022 = zz at *
    have e1 : mg t * mg v * (x * y) = (mg t * x) * (mg v * y) := by grind
    have e2 : q * n * (z * zz) = (q * z) * (n * zz) := by grind
    rw [e1, e2, a, b]
  have hqn := qn_le m q (by omega) hm1.2 hq3
  rw [← hn] at hqn
  obtain ⟨k, hk⟩ : ∃ k, 1021 + 1022 = k := ⟨_, rfl⟩
  rw [hk] at key
  clear hMt hMv hMd
  refine rung_mono (vle_of (x := (pl t + 1074).toNat + (pl v + 1074).toNat) (y := 53 + k) (by omega) ?_)
  rw [key, Nat.pow_add 2 53 k, ← Nat.mul_assoc, show (2 : Nat) ^ 53 = 9007199254740992 from by decide]
  exact Nat.mul_le_mul_right _ hqn
theorem ease_one {s d v e : Nat} (h : EaseB 4607182418800017408 s d v e) : e ≤ 4607182418800017409 := by
  have a : s = 4607182418800017408 := by rw [h.es]; decide +kernel
  have b : d = 4611686018427387904 := by rw [h.ed]; decide +kernel
  have c : v = 4607182418800017408 := by rw [h.ev, b]; decide +kernel
  rw [h.ee, a, c]
  decide +kernel
theorem ease_le {u s d v e : Nat} (hu : u ≤ 4607182418800017408) (h : EaseB u s d v e) : e ≤ 4607182418800017409 := by
  by_cases h1 : u ≤ 4602678819172646912
  · have := ease_low h1 h; omega
  · by_cases h2 : u = 4607182418800017408
    · subst h2; exact ease_one h
    · exact ease_high (by omega) (by omega) h
end FK
