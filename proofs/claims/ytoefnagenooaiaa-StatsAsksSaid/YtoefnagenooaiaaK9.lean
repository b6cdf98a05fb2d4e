/-
  Doubles: More on doubles, quotients.
-/
import Derived.Test.YtoefnagenooaiaaK8
namespace FK
set_option linter.unusedVariables false
open Ieee

/-- A whole number's quotient with the sticky bit. -/
def SQ (n d : Nat) : Nat := 2 * (n / d) + (n % d != 0).toNat
theorem SQ_mono {n m d : Nat} (hd : 0 < d) (h : n ≤ m) : SQ n d ≤ SQ m d := by
  unfold SQ
  have h1 : n / d ≤ m / d := Nat.div_le_div_right h
  have b1 : (n % d != 0).toNat ≤ 1 := Bool.toNat_le _
  have b2 : (m % d != 0).toNat ≤ 1 := Bool.toNat_le _
  by_cases e : n / d = m / d
  · have a1 := Nat.div_add_mod n d
    have a2 := Nat.div_add_mod m d
    rw [e] at a1
    have : n % d ≤ m % d := by omega
    have : (n % d != 0).toNat ≤ (m % d != 0).toNat := by
      by_cases z : n % d = 0
      · simp [z]
      · have : m % d ≠ 0 := by omega
        have t1 : (n % d != 0) = true := bne_iff_ne.2 z
        have t2 : (m % d != 0) = true := bne_iff_ne.2 this
        rw [t1, t2]; exact Nat.le_refl _
    omega
  · omega

theorem rne_mid (q j k g : Nat) (hj : 1 ≤ j) (hj3 : j ≤ 3) (hk : 1 ≤ k) (hk3 : k ≤ 3) : rne (4 * q + j) (8 * g) = rne (4 * q + k) (8 * g) := by
  by_cases hg : g = 0
  · subst hg; unfold rne; simp
    rw [if_pos (by omega), if_pos (by omega)]
  have f : ∀ i, i ≤ 3 → (4 * q + i) / (8 * g) = q / (2 * g) ∧ (4 * q + i) % (8 * g) = 4 * (q % (2 * g)) + i := by
    intro i hi
    have e8 : 8 * g = 4 * (2 * g) := by omega
    have e1 : (4 * q + i) / (8 * g) = q / (2 * g) := by
      rw [e8, ← Nat.div_div_eq_div_mul]
      congr 1; omega
    refine ⟨e1, ?_⟩
    have a1 := Nat.div_add_mod (4 * q + i) (8 * g)
    have a2 := Nat.div_add_mod q (2 * g)
    rw [e1, e8, Nat.mul_assoc 4] at a1
    rw [e8]
    omega
  obtain ⟨d1, m1⟩ := f j hj3
  obtain ⟨d2, m2⟩ := f k hk3
  unfold rne
  rw [d1, m1, d2, m2]
  have hi : 8 * g < 2 * (4 * (q % (2 * g)) + j) ↔ 8 * g < 2 * (4 * (q % (2 * g)) + k) := by omega
  have hn1 : ¬ (8 * g = 2 * (4 * (q % (2 * g)) + j)) := by omega
  have hn2 : ¬ (8 * g = 2 * (4 * (q % (2 * g)) + k)) := by omega
  by_cases c : 8 * g < 2 * (4 * (q % (2 * g)) + j)
  · rw [if_pos (Or.inl c), if_pos (Or.inl (hi.1 c))]
  · rw [if_neg (by omega), if_neg (by omega)]

/-- Numbers strictly between two neighbours of a fine grid have one rung. -/
theorem rung_mid (q j k : Nat) (p : Int) (hq : 9007199254740992 ≤ q) (hj : 1 ≤ j) (hj3 : j ≤ 3) (hk : 1 ≤ k) (hk3 : k ≤ 3) : rung (4 * q + j) p = rung (4 * q + k) p := by
  have hlog : (4 * q + j).log2 = (4 * q + k).log2 := by
    have z : 4 * q + j ≠ 0 := by omega
    have z2 : 4 * q + k ≠ 0 := by omega
    have f : ∀ i, i ≤ 3 → (4 * q + i).log2 = q.log2 + 2 := by
      intro i hi
      have h1 := log2_le (m := q) (by omega)
      have h2 := lt_log2 q
      refine log2_eq ?_ ?_
      · rw [Nat.pow_add]; omega
      · rw [show q.log2 + 2 + 1 = (q.log2 + 1) + 2 by omega, Nat.pow_add]; omega
    rw [f j hj3, f k hk3]
  have hl : 55 ≤ (4 * q + j).log2 := by
    have : (4 * q + j) ≠ 0 := by omega
    have h2 := lt_log2 (4 * q + j)
    apply Classical.byContradiction
    intro hc
    have h3 : 2 ^ ((4 * q + j).log2 + 1) ≤ 2 ^ 55 := Nat.pow_le_pow_right (by decide) (by omega)
    have h4 : (2 : Nat) ^ 55 = 36028797018963968 := by decide
    omega
  unfold rung
  rw [if_neg (by omega), if_neg (by omega), ← hlog]
  simp only
  generalize hL : max (p + ((4 * q + j).log2 : Int) - 52) (-1074) = last
  have e1 : (p - last).toNat = 0 := by omega
  have e2 : ∃ t, (last - p).toNat = 3 + t := ⟨(last - p).toNat - 3, by omega⟩
  obtain ⟨t, ht⟩ := e2
  rw [e1, Nat.pow_zero, Nat.mul_one, Nat.mul_one, ht, Nat.pow_add, show (2 : Nat) ^ 3 = 8 by decide, rne_mid q j k _ hj hj3 hk hk3]

/-- A finer grid gives the same rung. -/
theorem SQ_fine {n d : Nat} (p : Int) (hd : 0 < d) (hq : 9007199254740992 ≤ n / d) : rung (SQ (2 * n) d) (p - 1) = rung (SQ n d) p := by
  have e : rung (2 * SQ n d) (p - 1) = rung (SQ n d) p := by
    have := rung_scale (SQ n d) p 1
    rwa [Nat.pow_one, Nat.mul_comm] at this
  rw [← e]
  have a := Nat.div_add_mod n d
  have lt := Nat.mod_lt n hd
  generalize hqq : n / d = q at *
  generalize hr : n % d = r at *
  have e2 : 2 * n = d * (2 * q) + 2 * r := by
    have : d * (2 * q) = 2 * (d * q) := Nat.mul_left_comm d 2 q
    omega
  have dv : (2 * n) / d = 2 * q + (2 * r) / d := by rw [e2, Nat.mul_add_div hd]
  have md : (2 * n) % d = (2 * r) % d := by rw [e2, Nat.mul_add_mod]
  unfold SQ
  rw [dv, md, hqq, hr]
  by_cases z : r = 0
  · subst z; simp
  · have st : (r != 0) = true := by simp [z]
    rw [st]
    by_cases c : 2 * r < d
    · have h1 : 2 * r / d = 0 := Nat.div_eq_of_lt c
      have h2 : 2 * r % d = 2 * r := Nat.mod_eq_of_lt c
      rw [h1, h2, show (2 * r != 0) = true by simp; omega]
      have := rung_mid q 1 2 (p - 1) hq (by omega) (by omega) (by omega) (by omega)
      simp only [Bool.toNat_true]
      rw [show 2 * (2 * q + 0) + 1 = 4 * q + 1 by omega, show 2 * (2 * q + 1) = 4 * q + 2 by omega]
      exact this
    · have h1 : 2 * r / d = 1 := by
        rw [Nat.div_eq_iff hd]; omega
      rw [h1]
      have b : (2 * r % d != 0).toNat = 0 ∨ (2 * r % d != 0).toNat = 1 := by
        cases (2 * r % d != 0) <;> simp
      simp only [Bool.toNat_true]
      rcases b with b | b
      · rw [b, show 2 * (2 * q + 1) + 0 = 2 * (2 * q + 1) by omega]
      · rw [b, show 2 * (2 * q + 1) + 1 = 4 * q + 3 by omega, show 2 * (2 * q + 1) = 4 * q + 2 by omega]
        exact rung_mid q 3 2 (p - 1) hq (by omega) (by omega) (by omega) (by omega)

theorem SQ_finer {n d : Nat} (p : Int) (hd : 0 < d) (hq : 9007199254740992 ≤ n / d) (k : Nat) : rung (SQ (n * 2 ^ k) d) (p - k) = rung (SQ n d) p := by
  induction k with
  | zero => simp
  | succ k ih =>
    rw [← ih]
    have hq2 : 9007199254740992 ≤ (n * 2 ^ k) / d :=
      Nat.le_trans hq (Nat.div_le_div_right (Nat.le_mul_of_pos_right _ (Nat.two_pow_pos _)))
    have := SQ_fine (n := n * 2 ^ k) (p - k) hd hq2
    rw [← this, Nat.pow_succ]
    congr 1
    · congr 1; rw [← Nat.mul_assoc, Nat.mul_comm]
    · omega

/-- The rung of a quotient. -/
def Q (r s : Nat) : Nat := rung (SQ (mg r * 2 ^ (54 + (mg s).log2 - (mg r).log2)) (mg s)) (pl r - pl s - (54 + (mg s).log2 - (mg r).log2 : Nat) - 1)
theorem div_fin (x y : Nat) (hx : rg x < 9218868437227405312) (hy : rg y < 9218868437227405312) (h0 : mg (rg y) ≠ 0) :
    double.div x y = some (mkw (sg x ^^ sg y) (Q (rg x) (rg y))) := by
  have e54 : double.fractionBits + 2 = 54 := by decide
  have e : (Datum.number (sg x) (mg (rg x)) (pl (rg x))).quotient 54 (Datum.number (sg y) (mg (rg y)) (pl (rg y))) =
      some (.number (sg x ^^ sg y) (SQ (mg (rg x) * 2 ^ (54 + (mg (rg y)).log2 - (mg (rg x)).log2)) (mg (rg y))) (pl (rg x) - pl (rg y) - (54 + (mg (rg y)).log2 - (mg (rg x)).log2 : Nat) - 1)) := by
    unfold Datum.quotient
    simp only
    rw [if_neg h0, Nat.shiftLeft_eq]
    rfl
  unfold Format.div
  rw [read_fin x hx, read_fin y hy, e54, e]
  show some (double.nearest _ _ _) = _
  rw [nearest_eq, word_eq]
  rfl

theorem mg_log (r : Nat) : (mg r).log2 ≤ 52 := by
  by_cases h0 : mg r = 0
  · rw [h0]; decide
  · have := (Nat.log2_lt h0).2 (mg_lt r)
    omega
theorem Q_big {r s : Nat} (hr : mg r ≠ 0) (hs : mg s ≠ 0) : 9007199254740992 ≤ mg r * 2 ^ (54 + (mg s).log2 - (mg r).log2) / mg s := by
  rw [Nat.le_div_iff_mul_le (Nat.pos_of_ne_zero hs)]
  have h1 := log2_le hr
  have h2 := lt_log2 (mg s)
  have h3 := mg_log r
  have e53 : (9007199254740992 : Nat) = 2 ^ 53 := by decide
  calc 9007199254740992 * mg s ≤ 2 ^ 53 * 2 ^ ((mg s).log2 + 1) := by rw [e53]; exact Nat.mul_le_mul_left _ (Nat.le_of_lt h2)
    _ = 2 ^ (mg r).log2 * 2 ^ (54 + (mg s).log2 - (mg r).log2) := by rw [← Nat.pow_add, ← Nat.pow_add]; congr 1; omega
    _ ≤ _ := Nat.mul_le_mul_right _ h1

theorem Q_mono {r t s : Nat} (hr : r < 9218868437227405312) (ht : t < 9218868437227405312) (hs : mg s ≠ 0) (h : r ≤ t) : Q r s ≤ Q t s := by
  by_cases hr0 : mg r = 0
  · unfold Q SQ
    rw [hr0, Nat.zero_mul, Nat.zero_div, Nat.zero_mod]
    unfold rung
    rw [if_pos (by decide)]
    exact Nat.zero_le _
  by_cases ht0 : mg t = 0
  · have := mg_zero ht0
    subst this
    have : r = 0 := by omega
    subst this
    exact Nat.le_refl _
  have hb := Q_big hr0 hs
  have hb2 := Q_big ht0 hs
  have l1 := mg_log r
  have l2 := mg_log t
  unfold Q
  generalize hK : 54 + (mg s).log2 - (mg r).log2 = K at *
  generalize hK2 : 54 + (mg s).log2 - (mg t).log2 = K2 at *
  generalize hP : pl r - pl s - (K : Int) - 1 = P at *
  generalize hP2 : pl t - pl s - (K2 : Int) - 1 = P2 at *
  have f1 := SQ_finer P (Nat.pos_of_ne_zero hs) hb (P - min P P2).toNat
  have f2 := SQ_finer P2 (Nat.pos_of_ne_zero hs) hb2 (P2 - min P P2).toNat
  rw [← f1, ← f2]
  have e1 : P - ((P - min P P2).toNat : Int) = min P P2 := by omega
  have e2 : P2 - ((P2 - min P P2).toNat : Int) = min P P2 := by omega
  rw [e1, e2]
  apply rung_mono
  refine vle_of (x := 0) (y := 0) (by omega) ?_
  rw [Nat.pow_zero, Nat.mul_one, Nat.mul_one]
  apply SQ_mono (Nat.pos_of_ne_zero hs)
  rw [Nat.mul_assoc, Nat.mul_assoc, ← Nat.pow_add, ← Nat.pow_add]
  exact (num_le hr ht (by omega)).2 h
theorem Q_self {s : Nat} (hs : mg s ≠ 0) : Q s s = 4607182418800017408 := by
  have e : 54 + (mg s).log2 - (mg s).log2 = 54 := by omega
  unfold Q SQ
  rw [e, Nat.mul_div_cancel_left _ (Nat.pos_of_ne_zero hs), Nat.mul_mod_right]
  have : pl s - pl s - ((54 : Nat) : Int) - 1 = 0 - ((55 : Nat) : Int) := by omega
  rw [this]
  have h := rung_scale 1 0 55
  rw [show 2 * 2 ^ 54 + ((0 : Nat) != 0).toNat = 1 * 2 ^ 55 by decide, h]
  decide
theorem Q_le_one {r s : Nat} (hr : r < 9218868437227405312) (hs : s < 9218868437227405312) (h0 : mg s ≠ 0) (h : r ≤ s) : Q r s ≤ 4607182418800017408 := by
  rw [← Q_self h0]; exact Q_mono hr hs h0 h
end FK
