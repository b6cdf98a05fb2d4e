/-
  Doubles: The rung nearest to a number is monotone in it, and a rung's own number comes back.
-/
import Derived.Test.YtoefnagenooaiaaK1
namespace FK
set_option linter.unusedVariables false
open Ieee

/-- m * 2 ^ p is at most n * 2 ^ q. -/
def vle (m : Nat) (p : Int) (n : Nat) (q : Int) : Prop := m * 2 ^ (p - q).toNat ≤ n * 2 ^ (q - p).toNat

theorem vle_at {m n : Nat} {p q : Int} (h : vle m p n q) {x y : Nat} (e : (x : Int) - y = p - q) : m * 2 ^ x ≤ n * 2 ^ y := by
  unfold vle at h
  by_cases hpq : q ≤ p
  · have e1 : (q - p).toNat = 0 := by omega
    have e2 : x = (p - q).toNat + y := by omega
    rw [e1, Nat.pow_zero, Nat.mul_one] at h
    rw [e2, Nat.pow_add, ← Nat.mul_assoc]
    exact Nat.mul_le_mul_right _ h
  · have e1 : (p - q).toNat = 0 := by omega
    have e2 : y = (q - p).toNat + x := by omega
    rw [e1, Nat.pow_zero, Nat.mul_one] at h
    rw [e2, Nat.pow_add, ← Nat.mul_assoc]
    exact Nat.mul_le_mul_right _ h

theorem vle_of {m n : Nat} {p q : Int} {x y : Nat} (e : (x : Int) - y = p - q) (h : m * 2 ^ x ≤ n * 2 ^ y) : vle m p n q := by
  unfold vle
  by_cases hpq : q ≤ p
  · have e1 : (q - p).toNat = 0 := by omega
    have e2 : x = (p - q).toNat + y := by omega
    rw [e1, Nat.pow_zero, Nat.mul_one]
    rw [e2, Nat.pow_add, ← Nat.mul_assoc] at h
    exact Nat.le_of_mul_le_mul_right h (Nat.two_pow_pos y)
  · have e1 : (p - q).toNat = 0 := by omega
    have e2 : y = (q - p).toNat + x := by omega
    rw [e1, Nat.pow_zero, Nat.mul_one]
    rw [e2, Nat.pow_add, ← Nat.mul_assoc] at h
    exact Nat.le_of_mul_le_mul_right h (Nat.two_pow_pos x)

/-- The rung that is nearest to mag * 2 ^ place. -/
def rung (mag : Nat) (place : Int) : Nat :=
  if mag = 0 then 0 else
  let last := max (place + mag.log2 - 52) (-1074)
  min ((last + 1074).toNat * 4503599627370496 + rne (mag * 2 ^ (place - last).toNat) (2 ^ (last - place).toNat)) 9218868437227405312

theorem nearest_eq (neg : Bool) (mag : Nat) (place : Int) : double.nearest neg mag place = double.word neg (rung mag place) := by
  unfold Format.nearest rung
  have e1 : double.leastPlace = -1074 := by decide
  have e2 : double.binade = 4503599627370496 := by decide
  have e3 : double.infRung = 9218868437227405312 := by decide
  have e4 : ((double.fractionBits : Nat) : Int) = 52 := by decide
  by_cases h : mag = 0
  · rw [if_pos h, if_pos h]
  · rw [if_neg h, if_neg h]
    simp only [e1, e2, e3, e4, cut_even, Nat.shiftLeft_eq]
    congr 2

theorem log2_le {m : Nat} (h : m ≠ 0) : 2 ^ m.log2 ≤ m := Nat.log2_self_le h
theorem lt_log2 (m : Nat) : m < 2 ^ (m.log2 + 1) := Nat.lt_log2_self

/-- The greater number has not the lesser leading place. -/
theorem lead_mono {m n : Nat} {p q : Int} (hm : m ≠ 0) (hn : n ≠ 0) (h : vle m p n q) : p + m.log2 ≤ q + n.log2 := by
  apply Classical.byContradiction
  intro hc
  have h1 := log2_le hm
  have h2 := lt_log2 n
  obtain ⟨x, y, e⟩ : ∃ x y : Nat, (x : Int) - y = p - q := ⟨(p - q).toNat, (q - p).toNat, by omega⟩
  have h3 := vle_at h e
  have h4 : 2 ^ m.log2 * 2 ^ x ≤ m * 2 ^ x := Nat.mul_le_mul_right _ h1
  have h5 : n * 2 ^ y < 2 ^ (n.log2 + 1) * 2 ^ y := Nat.mul_lt_mul_of_pos_right h2 (Nat.two_pow_pos y)
  rw [← Nat.pow_add] at h4 h5
  have h6 : 2 ^ (m.log2 + x) < 2 ^ (n.log2 + 1 + y) := by omega
  have h7 := (Nat.pow_lt_pow_iff_right (by decide : 1 < 2)).1 h6
  omega

theorem rung_mono {m n : Nat} {p q : Int} (h : vle m p n q) : rung m p ≤ rung n q := by
  by_cases hm : m = 0
  · unfold rung; rw [if_pos hm]; exact Nat.zero_le _
  by_cases hn : n = 0
  · exfalso
    subst hn
    unfold vle at h
    rw [Nat.zero_mul] at h
    have := Nat.mul_pos (Nat.pos_of_ne_zero hm) (Nat.two_pow_pos (p - q).toNat)
    omega
  have hk := lead_mono hm hn h
  unfold rung
  rw [if_neg hm, if_neg hn]
  simp only
  generalize hl1 : max (p + (m.log2 : Int) - 52) (-1074) = l1
  generalize hl2 : max (q + (n.log2 : Int) - 52) (-1074) = l2
  have hl : l1 ≤ l2 := by omega
  have hmin : ∀ a b c : Nat, a ≤ b → min a c ≤ min b c := fun a b c h => by omega
  apply hmin
  by_cases e : l1 = l2
  · subst e
    apply Nat.add_le_add_left
    apply rne_mono (Nat.two_pow_pos _) (Nat.two_pow_pos _)
    rw [Nat.mul_assoc, Nat.mul_assoc, ← Nat.pow_add, ← Nat.pow_add]
    exact vle_at h (by omega)
  · have u1 : rne (m * 2 ^ (p - l1).toNat) (2 ^ (l1 - p).toNat) ≤ 9007199254740992 := by
      have := rne_mono (n1 := m * 2 ^ (p - l1).toNat) (g1 := 2 ^ (l1 - p).toNat) (n2 := 9007199254740992) (g2 := 1) (Nat.two_pow_pos _) (by decide) (by
        have h1 := lt_log2 m
        have h2 : m * 2 ^ (p - l1).toNat ≤ 2 ^ (m.log2 + 1) * 2 ^ (p - l1).toNat := Nat.mul_le_mul_right _ (by omega)
        rw [← Nat.pow_add] at h2
        have h3 : 2 ^ (m.log2 + 1 + (p - l1).toNat) ≤ 2 ^ (53 + (l1 - p).toNat) := Nat.pow_le_pow_right (by decide) (by omega)
        rw [Nat.pow_add 2 53] at h3
        have h4 : (2 : Nat) ^ 53 = 9007199254740992 := by decide
        rw [h4] at h3
        omega)
      have e1 : rne 9007199254740992 1 = 9007199254740992 := by
        have := rne_exact 9007199254740992 1 (by decide)
        rwa [Nat.mul_one] at this
      omega
    have u2 : 4503599627370496 ≤ rne (n * 2 ^ (q - l2).toNat) (2 ^ (l2 - q).toNat) := by
      have := rne_mono (n1 := 4503599627370496) (g1 := 1) (n2 := n * 2 ^ (q - l2).toNat) (g2 := 2 ^ (l2 - q).toNat) (by decide) (Nat.two_pow_pos _) (by
        have h1 := log2_le hn
        have h2 : 2 ^ n.log2 * 2 ^ (q - l2).toNat ≤ n * 2 ^ (q - l2).toNat := Nat.mul_le_mul_right _ h1
        rw [← Nat.pow_add] at h2
        have h3 : 2 ^ (52 + (l2 - q).toNat) ≤ 2 ^ (n.log2 + (q - l2).toNat) := Nat.pow_le_pow_right (by decide) (by omega)
        rw [Nat.pow_add 2 52] at h3
        have h4 : (2 : Nat) ^ 52 = 4503599627370496 := by decide
        rw [h4] at h3
        omega)
      have e1 : rne 4503599627370496 1 = 4503599627370496 := by
        have := rne_exact 4503599627370496 1 (by decide)
        rwa [Nat.mul_one] at this
      omega
    have u3 : (l1 + 1074).toNat + 1 ≤ (l2 + 1074).toNat := by omega
    have u4 : ((l1 + 1074).toNat + 1) * 4503599627370496 ≤ (l2 + 1074).toNat * 4503599627370496 := Nat.mul_le_mul_right _ u3
    omega

theorem rung_le_inf (m : Nat) (p : Int) : rung m p ≤ 9218868437227405312 := by
  unfold rung; split
  · omega
  · exact Nat.min_le_right _ _

/-- The number of a rung: its magnitude and its place. -/
def mg (r : Nat) : Nat := if r < 4503599627370496 then r else 4503599627370496 + r % 4503599627370496
def pl (r : Nat) : Int := if r < 4503599627370496 then -1074 else -1074 + ((r / 4503599627370496 - 1 : Nat) : Int)

theorem log2_eq {m k : Nat} (h1 : 2 ^ k ≤ m) (h2 : m < 2 ^ (k + 1)) : m.log2 = k := by
  have h0 : m ≠ 0 := by have := Nat.two_pow_pos k; omega
  exact (Nat.log2_eq_iff h0).2 ⟨h1, h2⟩

theorem rung_self (r : Nat) (h : r < 9218868437227405312) : rung (mg r) (pl r) = r := by
  unfold rung
  by_cases h0 : mg r = 0
  · rw [if_pos h0]
    unfold mg at h0
    split at h0 <;> omega
  rw [if_neg h0]
  unfold mg pl at *
  by_cases hr : r < 4503599627370496
  · rw [if_pos hr] at h0
    simp only [if_pos hr]
    have hlog : r.log2 < 52 := (Nat.log2_lt h0).2 (by have : (2 : Nat) ^ 52 = 4503599627370496 := by decide
                                                      omega)
    have e1 : max (-1074 + (r.log2 : Int) - 52) (-1074) = -1074 := by omega
    rw [e1]
    have e2 : ((-1074 : Int) - -1074).toNat = 0 := by decide
    have e3 : ((-1074 : Int) + 1074).toNat = 0 := by decide
    rw [e2, e3]
    have := rne_exact r 1 (by decide)
    rw [Nat.mul_one] at this
    rw [Nat.pow_zero, Nat.mul_one, this]
    omega
  · simp only [if_neg hr]
    have hf : r % 4503599627370496 < 4503599627370496 := Nat.mod_lt _ (by decide)
    have hlog : (4503599627370496 + r % 4503599627370496).log2 = 52 := by
      apply log2_eq
      · have : (2 : Nat) ^ 52 = 4503599627370496 := by decide
        omega
      · have : (2 : Nat) ^ 53 = 9007199254740992 := by decide
        omega
    rw [hlog]
    have hd : 1 ≤ r / 4503599627370496 := by omega
    generalize hq : r / 4503599627370496 = d at *
    have e1 : max (-1074 + ((d - 1 : Nat) : Int) + ((52 : Nat) : Int) - 52) (-1074) = -1074 + ((d - 1 : Nat) : Int) := by omega
    rw [e1, Int.sub_self]
    have e3 : (-1074 + ((d - 1 : Nat) : Int) + 1074).toNat = d - 1 := by omega
    rw [e3]
    have := rne_exact (4503599627370496 + r % 4503599627370496) 1 (by decide)
    rw [Nat.mul_one] at this
    have e4 : (0 : Int).toNat = 0 := rfl
    rw [e4, Nat.pow_zero, Nat.mul_one, this]
    omega

end FK
