/-
  Doubles: Sums, products, quotients by powers of two, whole parts of doubles, exactly.
-/
import Derived.Test.YtoefnagenooaiaaK3
namespace FK
set_option linter.unusedVariables false
open Ieee

theorem mul_fin (x y : Nat) (hx : rg x < 9218868437227405312) (hy : rg y < 9218868437227405312) :
    double.mul x y = some (mkw (sg x ^^ sg y) (rung (mg (rg x) * mg (rg y)) (pl (rg x) + pl (rg y)))) := by
  unfold Format.mul
  rw [read_fin x hx, read_fin y hy]
  show some (double.nearest _ _ _) = _
  rw [nearest_eq, word_eq]

theorem shift_V (x : Nat) (b : Int) (h1 : -1074 ≤ b) (h2 : b ≤ pl (rg x)) :
    (signed (sg x) (mg (rg x)) (pl (rg x) - b).toNat) * 2 ^ (b + 1074).toNat = V x := by
  rw [signed_eq]
  unfold V M
  have e : (pl (rg x) + 1074).toNat = (pl (rg x) - b).toNat + (b + 1074).toNat := by omega
  rw [e]
  have h : ∀ m u v : Nat, ((m * 2 ^ u : Nat) : Int) * 2 ^ v = ((m * 2 ^ (u + v) : Nat) : Int) := fun m u v => by
    rw [Nat.pow_add, ← Nat.mul_assoc]
    rw [Int.natCast_mul (m * 2 ^ u) (2 ^ v), Int.natCast_pow]; rfl
  cases sg x
  · simp only [Bool.false_eq_true, if_false]; exact h _ _ _
  · simp only [if_true]; rw [Int.neg_mul, h]

theorem rung_scale_int (t b : Int) (h1 : -1074 ≤ b) : rung t.natAbs b = R (t * 2 ^ (b + 1074).toNat).natAbs := by
  have := rung_scale t.natAbs b (b + 1074).toNat
  have e : b - ((b + 1074).toNat : Int) = -1074 := by omega
  rw [e] at this
  unfold R
  rw [← this, Int.natAbs_mul, Int.natAbs_pow]
  rfl

theorem pow_posI (k : Nat) : (0 : Int) < 2 ^ k := by
  have := Nat.two_pow_pos k
  have h : ((2 ^ k : Nat) : Int) = (2 : Int) ^ k := by rw [Int.natCast_pow]; rfl
  omega

theorem sum_word (s t : Bool) (T b : Int) (h1 : -1074 ≤ b) (W : Int) (hW : T * 2 ^ (b + 1074).toNat = W) :
    double.write (.number (if T = 0 then s && t else decide (T < 0)) T.natAbs b) = mkw (if W = 0 then s && t else decide (W < 0)) (R W.natAbs) := by
  show double.nearest _ _ _ = _
  rw [nearest_eq, word_eq, rung_scale_int T b h1, hW]
  have hp := pow_posI (b + 1074).toNat
  generalize (2 : Int) ^ (b + 1074).toNat = P at *
  congr 1
  by_cases h0 : T = 0
  · subst h0
    have : W = 0 := by rw [← hW, Int.zero_mul]
    rw [if_pos rfl, if_pos this]
  · have hW0 : W ≠ 0 := by
      rw [← hW]; intro h
      rcases Int.mul_eq_zero.1 h with h | h <;> omega
    rw [if_neg h0, if_neg hW0, decide_eq_decide, ← hW]
    constructor
    · intro h; exact Int.mul_neg_of_neg_of_pos h hp
    · intro h
      apply Classical.byContradiction
      intro hc
      have := Int.mul_nonneg (a := T) (b := P) (by omega) (by omega)
      omega

theorem add_fin (x y : Nat) (hx : rg x < 9218868437227405312) (hy : rg y < 9218868437227405312) :
    double.add x y = some (mkw (if V x + V y = 0 then sg x && sg y else decide (V x + V y < 0)) (R (V x + V y).natAbs)) := by
  unfold Format.add
  rw [read_fin x hx, read_fin y hy]
  have g1 := pl_ge (rg x)
  have g2 := pl_ge (rg y)
  have s1 := shift_V x (min (pl (rg x)) (pl (rg y))) (by omega) (by omega)
  have s2 := shift_V y (min (pl (rg x)) (pl (rg y))) (by omega) (by omega)
  show some (double.write (.number (if _ = 0 then _ else _) _ _)) = _
  congr 1
  exact sum_word (sg x) (sg y) _ (min (pl (rg x)) (pl (rg y))) (by omega) _ (by rw [Int.add_mul, s1, s2])

theorem opp_read (y : Nat) (hy : rg y < 9218868437227405312) : (double.read y).opposite = .number (!sg y) (mg (rg y)) (pl (rg y)) := by
  rw [read_fin y hy]; rfl
theorem signed_not (s : Bool) (m u : Nat) : signed (!s) m u = -signed s m u := by
  rw [signed_eq, signed_eq]; cases s <;> simp
theorem sub_fin (x y : Nat) (hx : rg x < 9218868437227405312) (hy : rg y < 9218868437227405312) :
    double.sub x y = some (mkw (if V x - V y = 0 then sg x && !sg y else decide (V x - V y < 0)) (R (V x - V y).natAbs)) := by
  unfold Format.sub
  rw [read_fin x hx, opp_read y hy]
  have g1 := pl_ge (rg x)
  have g2 := pl_ge (rg y)
  have s1 := shift_V x (min (pl (rg x)) (pl (rg y))) (by omega) (by omega)
  have s2 := shift_V y (min (pl (rg x)) (pl (rg y))) (by omega) (by omega)
  show some (double.write (.number (if _ = 0 then _ else _) _ _)) = _
  congr 1
  exact sum_word (sg x) (!sg y) _ (min (pl (rg x)) (pl (rg y))) (by omega) _ (by rw [signed_not, Int.add_mul, s1, Int.neg_mul, s2]; omega)

/-- What can be written is written. -/
theorem rung_exact (N : Nat) (p : Int) (hN : N < 9007199254740992) (h1 : -1074 ≤ p) (h2 : p ≤ 900) :
    rung N p < 9218868437227405312 ∧ M (rung N p) = N * 2 ^ (p + 1074).toNat := by
  have c53 : (2 : Nat) ^ 53 = 9007199254740992 := by decide
  have c52 : (2 : Nat) ^ 52 = 4503599627370496 := by decide
  by_cases h0 : N = 0
  · subst h0; unfold rung; rw [if_pos rfl, Nat.zero_mul]; exact ⟨by decide, by decide⟩
  have hl : N.log2 < 53 := (Nat.log2_lt h0).2 (by omega)
  unfold rung
  rw [if_neg h0]
  simp only
  generalize hlast : max (p + (N.log2 : Int) - 52) (-1074) = last
  have hlp : last ≤ p := by omega
  have e0 : (last - p).toNat = 0 := by omega
  rw [e0, Nat.pow_zero]
  have er := rne_exact (N * 2 ^ (p - last).toNat) 1 (by decide)
  rw [Nat.mul_one] at er
  rw [er]
  have hk1 : N * 2 ^ (p - last).toNat < 9007199254740992 := by
    have a1 := lt_log2 N
    have a2 : N * 2 ^ (p - last).toNat < 2 ^ (N.log2 + 1) * 2 ^ (p - last).toNat := Nat.mul_lt_mul_of_pos_right a1 (Nat.two_pow_pos _)
    rw [← Nat.pow_add] at a2
    have a3 : 2 ^ (N.log2 + 1 + (p - last).toNat) ≤ 2 ^ 53 := Nat.pow_le_pow_right (by decide) (by omega)
    omega
  have hval : N * 2 ^ (p + 1074).toNat = N * 2 ^ (p - last).toNat * 2 ^ (last + 1074).toNat := by
    rw [Nat.mul_assoc, ← Nat.pow_add]; congr 2; omega
  rw [hval]
  by_cases hlo : last = -1074
  · subst hlo
    have e1 : ((-1074 : Int) + 1074).toNat = 0 := by decide
    rw [e1, Nat.zero_mul, Nat.zero_add, Nat.pow_zero, Nat.mul_one]
    generalize N * 2 ^ (p - -1074).toNat = k at *
    rw [Nat.min_eq_left (by omega)]
    refine ⟨by omega, ?_⟩
    unfold M mg pl
    by_cases hk : k < 4503599627370496
    · rw [if_pos hk, if_pos hk, e1]; simp
    · rw [if_neg hk, if_neg hk]
      have : k / 4503599627370496 = 1 := by omega
      rw [this]
      have e2 : (-1074 + ((1 - 1 : Nat) : Int) + 1074).toNat = 0 := by decide
      rw [e2]
      omega
  · have hk2 : 4503599627370496 ≤ N * 2 ^ (p - last).toNat := by
      have a1 := log2_le h0
      have a2 : 2 ^ N.log2 * 2 ^ (p - last).toNat ≤ N * 2 ^ (p - last).toNat := Nat.mul_le_mul_right _ a1
      rw [← Nat.pow_add] at a2
      have a3 : 2 ^ 52 ≤ 2 ^ (N.log2 + (p - last).toNat) := Nat.pow_le_pow_right (by decide) (by omega)
      omega
    generalize N * 2 ^ (p - last).toNat = k at *
    have hL : (last + 1074).toNat ≤ 1974 := by omega
    have hL1 : 1 ≤ (last + 1074).toNat := by omega
    generalize hLe : (last + 1074).toNat = L at *
    have b1 : L * 4503599627370496 + k < 9218868437227405312 := by omega
    rw [Nat.min_eq_left (by omega)]
    refine ⟨b1, ?_⟩
    unfold M mg pl
    have hq : (L * 4503599627370496 + k) / 4503599627370496 = L + 1 := by omega
    have hm : (L * 4503599627370496 + k) % 4503599627370496 = k - 4503599627370496 := by omega
    rw [if_neg (by omega), if_neg (by omega), hq, hm]
    have e2 : (-1074 + ((L + 1 - 1 : Nat) : Int) + 1074).toNat = L := by omega
    rw [e2, show 4503599627370496 + (k - 4503599627370496) = k by omega]

/-- To divide by a power of two. -/
theorem div_pow (x y : Nat) (hx : rg x < 9218868437227405312) (hy : rg y < 9218868437227405312) (hm : mg (rg y) = 4503599627370496) :
    double.div x y = some (mkw (sg x ^^ sg y) (rung (mg (rg x)) (pl (rg x) - pl (rg y) - 52))) := by
  unfold Format.div
  rw [read_fin x hx, read_fin y hy, hm]
  have e54 : double.fractionBits + 2 = 54 := by decide
  rw [e54]
  have hl : (4503599627370496 : Nat).log2 = 52 := log2_eq (by decide) (by decide)
  have hlm : (mg (rg x)).log2 ≤ 52 := by
    by_cases h0 : mg (rg x) = 0
    · rw [h0]; decide
    · have h53 : mg (rg x) < 2 ^ 53 := by
        have e53 : (2 : Nat) ^ 53 = 9007199254740992 := by decide
        rw [e53]
        unfold mg; split <;> omega
      have := (Nat.log2_lt h0).2 h53
      omega
  show some (double.nearest (sg x ^^ sg y) (2 * (mg (rg x) <<< (54 + (4503599627370496 : Nat).log2 - (mg (rg x)).log2) / 4503599627370496) + (mg (rg x) <<< (54 + (4503599627370496 : Nat).log2 - (mg (rg x)).log2) % 4503599627370496 != 0).toNat) (pl (rg x) - pl (rg y) - (54 + (4503599627370496 : Nat).log2 - (mg (rg x)).log2 : Nat) - 1)) = _
  rw [hl]
  generalize hmore : 54 + 52 - (mg (rg x)).log2 = more
  have hmo : 54 ≤ more := by omega
  have hsp : mg (rg x) <<< more = mg (rg x) * 2 ^ (more - 52) * 4503599627370496 := by
    have c52 : (4503599627370496 : Nat) = 2 ^ 52 := by decide
    rw [Nat.shiftLeft_eq, c52, Nat.mul_assoc, ← Nat.pow_add]; congr 2; omega
  rw [hsp, Nat.mul_div_cancel _ (by decide), Nat.mul_mod_left]
  have e1 : 2 * (mg (rg x) * 2 ^ (more - 52)) + ((0 : Nat) != 0).toNat = mg (rg x) * 2 ^ (more - 51) := by
    have : more - 51 = (more - 52) + 1 := by omega
    rw [this, Nat.pow_succ, Nat.mul_comm (2 ^ (more - 52)) 2, Nat.mul_left_comm]
    rfl
  rw [e1, nearest_eq, word_eq]
  have e2 : pl (rg x) - pl (rg y) - (more : Int) - 1 = (pl (rg x) - pl (rg y) - 52) - ((more - 51 : Nat) : Int) := by omega
  rw [e2, rung_scale]

/-- The whole part of a finite magnitude. -/
def T (r : Nat) : Nat := mg r * 2 ^ (pl r).toNat / 2 ^ (-pl r).toNat

theorem cut_zero (s : Bool) (n drop : Nat) : Toward.zero.cut s n drop = n / 2 ^ drop := by
  unfold Toward.cut
  simp only [Nat.one_shiftLeft]
  by_cases hd : drop ≤ n.log2 + 2
  · rw [Nat.min_eq_left hd]; simp
  · have hmin : min drop (n.log2 + 2) = n.log2 + 2 := by omega
    rw [hmin]
    have hlt : n < 2 ^ (n.log2 + 1) := Nat.lt_log2_self
    have e1 : 2 ^ (n.log2 + 2) = 2 * 2 ^ (n.log2 + 1) := by rw [Nat.pow_succ]; omega
    have e2 : 2 ^ (n.log2 + 2) ≤ 2 ^ drop := Nat.pow_le_pow_right (by decide) (by omega)
    have d1 : n / 2 ^ (n.log2 + 2) = 0 := Nat.div_eq_of_lt (by omega)
    have d2 : n / 2 ^ drop = 0 := Nat.div_eq_of_lt (by omega)
    rw [d1, d2]; simp

theorem toInt_fin (x : Nat) (hx : rg x < 9218868437227405312) : (double.read x).toInt .zero = some (if sg x then -(T (rg x) : Int) else T (rg x)) := by
  rw [read_fin x hx]
  show some (signed (sg x) (Toward.zero.cut (sg x) (mg (rg x) <<< (pl (rg x)).toNat) (-pl (rg x)).toNat) 0) = _
  rw [cut_zero, signed_eq, Nat.shiftLeft_eq, Nat.pow_zero, Nat.mul_one]
  rfl

/-- A rung that is not above the one of a whole number N has no greater whole part. -/
theorem T_le (r c N : Nat) (hr : r < 9218868437227405312) (hc : c < 9218868437227405312) (hp : pl c ≤ 0) (hN : mg c = N * 2 ^ (-pl c).toNat) (h : r ≤ c) : T r ≤ N := by
  have h1 := (num_le hr hc (x := (pl r).toNat + (-pl c).toNat) (y := (-pl r).toNat) (by omega)).2 h
  unfold T
  apply Nat.div_le_of_le_mul
  rw [hN, Nat.pow_add, ← Nat.mul_assoc] at h1
  have h2 : N * 2 ^ (-pl c).toNat * 2 ^ (-pl r).toNat = 2 ^ (-pl r).toNat * N * 2 ^ (-pl c).toNat := by
    rw [Nat.mul_comm (2 ^ (-pl r).toNat) N, Nat.mul_assoc, Nat.mul_assoc, Nat.mul_comm (2 ^ (-pl c).toNat)]
  rw [h2] at h1
  exact Nat.le_of_mul_le_mul_right h1 (Nat.two_pow_pos _)

/-- The order of finite floats is the order of their values. -/
theorem sr_lt_V (x y : Nat) (hx : rg x < 9218868437227405312) (hy : rg y < 9218868437227405312) : (sr x < sr y ↔ V x < V y) ∧ (sr x = sr y ↔ V x = V y) := by
  have h1 := M_mono_iff hx hy
  have h2 := M_mono_iff hy hx
  have z1 := M_eq_zero hx
  have z2 := M_eq_zero hy
  unfold sr V
  generalize M (rg x) = A at *
  generalize M (rg y) = B at *
  generalize rg x = r at *
  generalize rg y = s at *
  cases sg x <;> cases sg y <;> simp <;> omega
end FK
