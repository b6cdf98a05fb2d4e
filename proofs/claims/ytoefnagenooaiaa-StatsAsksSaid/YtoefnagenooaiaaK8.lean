/-
  Doubles: More on doubles.
-/
import Derived.Test.YtoefnagenooaiaaK6
namespace FK
set_option linter.unusedVariables false
open Ieee

theorem mkf (r : Nat) : mkw false r = r := rfl
theorem mk_ff (r : Nat) : mkw (false && !false) r = r := rfl
theorem mk_ff2 (r : Nat) : mkw (false && false) r = r := rfl
theorem mk_ft2 (r : Nat) : mkw (false && true) r = r := rfl
theorem mk_xff (r : Nat) : mkw (false ^^ false) r = r := rfl
theorem mk_xtf (r : Nat) : mkw (true ^^ false) r = mkw true r := rfl
theorem w_pos {x : Nat} (h : x < 9218868437227405312) : rg x = x ∧ sg x = false := by
  constructor
  · exact Nat.mod_eq_of_lt (by omega)
  · have := sg_mkw false x (by omega)
    simpa [mkw] using this
theorem V_pos {x : Nat} (h : x < 9218868437227405312) : V x = M x := by
  unfold V; rw [(w_pos h).2, (w_pos h).1]; rfl
theorem sr_pos {x : Nat} (h : x < 9218868437227405312) : sr x = x := by
  unfold sr; rw [(w_pos h).2, (w_pos h).1]; rfl
theorem V_neg {r : Nat} (h : r < 9223372036854775808) : V (mkw true r) = -(M r : Int) := by
  unfold V; rw [sg_mkw _ _ h, rg_mkw _ _ h]; rfl

theorem mg_lt (r : Nat) : mg r < 2 ^ 53 := by
  have e53 : (2 : Nat) ^ 53 = 9007199254740992 := by decide
  rw [e53]; unfold mg; split <;> omega
theorem pl_le {r : Nat} (h : r < 9218868437227405312) : pl r ≤ 971 := by
  unfold pl; split <;> omega
set_option exponentiation.threshold 3000 in
theorem M_lt {r : Nat} (h : r < 9218868437227405312) : M r < 2 ^ 2098 := by
  unfold M
  have h1 := mg_lt r
  have h2 := pl_le h
  have h3 := pl_ge r
  calc mg r * 2 ^ (pl r + 1074).toNat < 2 ^ 53 * 2 ^ (pl r + 1074).toNat := Nat.mul_lt_mul_of_pos_right h1 (Nat.two_pow_pos _)
    _ ≤ 2 ^ 53 * 2 ^ 2045 := Nat.mul_le_mul_left _ (Nat.pow_le_pow_right (by decide) (by omega))
    _ = 2 ^ 2098 := (Nat.pow_add 2 53 2045).symm

/-- A power of two is a double's magnitude. -/
theorem pow_M (e : Nat) (h : e ≤ 2097) : ∃ r, r < 9218868437227405312 ∧ M r = 2 ^ e := by
  by_cases h1 : e < 52
  · refine ⟨2 ^ e, ?_, ?_⟩
    · have : (2 : Nat) ^ e ≤ 2 ^ 51 := Nat.pow_le_pow_right (by decide) (by omega)
      have e51 : (2 : Nat) ^ 51 = 2251799813685248 := by decide
      omega
    · have : (2 : Nat) ^ e ≤ 2 ^ 51 := Nat.pow_le_pow_right (by decide) (by omega)
      have e51 : (2 : Nat) ^ 51 = 2251799813685248 := by decide
      unfold M mg pl
      rw [if_pos (by omega), if_pos (by omega)]
      simp
  · refine ⟨(e - 51) * 4503599627370496, by omega, ?_⟩
    unfold M mg pl
    rw [if_neg (by omega), if_neg (by omega), Nat.mul_mod_left, Nat.mul_div_cancel _ (by decide)]
    have c52 : (4503599627370496 : Nat) = 2 ^ 52 := by decide
    have e2 : (-1074 + ((e - 51 - 1 : Nat) : Int) + 1074).toNat = e - 52 := by omega
    rw [e2, Nat.add_zero, c52, ← Nat.pow_add]
    congr 1; omega

/-- A magnitude over a power of two, rounded. -/
def DV (r c : Nat) : Nat := rung (mg r) (pl r - c)
theorem DV_le {r c : Nat} (h : r < 9218868437227405312) : DV r c ≤ r := by
  have : rung (mg r) (pl r - c) ≤ rung (mg r) (pl r) := rung_mono (vle_of (x := 0) (y := c) (by omega) (by
    rw [Nat.pow_zero, Nat.mul_one]; exact Nat.le_mul_of_pos_right _ (Nat.two_pow_pos _)))
  rwa [rung_self r h] at this
theorem DV_zero (c : Nat) : DV 0 c = 0 := by unfold DV; rw [show mg 0 = 0 by decide]; unfold rung; rw [if_pos rfl]

set_option exponentiation.threshold 3000 in
/-- The rung of a whole number of units, divided by a power of two, is no more than that number. -/
theorem DV_R {n c : Nat} (h0 : 0 < n) (hf : R n < 9218868437227405312) {b : Nat} (hb : b < 9218868437227405312) (hn' : n ≤ M b) (hc : 1 ≤ c) : DV (R n) c < 9218868437227405312 ∧ M (DV (R n) c) ≤ n := by
  have hl : n.log2 ≤ 2097 := by
    have hn : n < 2 ^ 2098 := Nat.lt_of_le_of_lt hn' (M_lt hb)
    have := (Nat.log2_lt (by omega : n ≠ 0)).2 hn
    omega
  obtain ⟨q, hq, hM⟩ := pow_M n.log2 hl
  have h1 : 2 ^ n.log2 ≤ n := log2_le (by omega)
  have h2 : n < 2 ^ (n.log2 + 1) := lt_log2 n
  have hd : M (R n) ≤ 2 ^ (n.log2 + 1) := by
    by_cases h3 : n.log2 = 2097
    · have := M_lt hf
      rw [h3]; exact Nat.le_of_lt this
    · obtain ⟨t, ht, hT⟩ := pow_M (n.log2 + 1) (by omega)
      have : R n ≤ t := by rw [← R_M t ht, hT]; exact R_mono (by omega)
      have := (M_mono_iff hf ht).2 this
      omega
  have hle : DV (R n) c ≤ q := by
    rw [← rung_self q hq]
    unfold DV
    have g1 := pl_ge (R n)
    have g2 := pl_ge q
    refine rung_mono (vle_of (x := (pl (R n) + 1074).toNat) (y := (pl q + 1074).toNat + c) (by omega) ?_)
    have e1 : mg (R n) * 2 ^ (pl (R n) + 1074).toNat = M (R n) := rfl
    have e2 : mg q * 2 ^ (pl q + 1074).toNat = M q := rfl
    rw [e1, Nat.pow_add, ← Nat.mul_assoc, e2, hM, ← Nat.pow_add]
    exact Nat.le_trans hd (Nat.pow_le_pow_right (by decide) (by omega))
  refine ⟨by omega, ?_⟩
  have := (M_mono_iff (by omega) hq).2 hle
  omega

/-- A step of a part of the way from a to b: no NaN, no infinity, and what comes lies between. -/
structure Step (a b cw : Nat) (d p s : Nat) : Prop where
  sub : double.sub b a = some d
  div : double.div d cw = some p
  add : double.add a p = some s
  fin : s < 9218868437227405312
  lo : min a b ≤ s
  hi : s ≤ max a b
  dfin : rg d < 9218868437227405312
  dval : d = mkw (decide (b < a)) (rg d)
  dlt : d < 18446744073709551616

theorem step {a b cw c : Nat} (ha : a < 9218868437227405312) (hb : b < 9218868437227405312) (h1 : rg cw < 9218868437227405312) (h2 : sg cw = false) (h3 : mg (rg cw) = 4503599627370496) (h4 : pl (rg cw) = (c : Int) - 52) (hc : 1 ≤ c) : ∃ d p s, Step a b cw d p s := by
  have mm := M_mono_iff ha hb
  have mm' := M_mono_iff hb ha
  by_cases h : a ≤ b
  · have h5 : M a ≤ M b := mm.2 h
    have hR : R (M b - M a) ≤ b := by
      have : R (M b - M a) ≤ R (M b) := R_mono (by omega)
      rwa [R_M b hb] at this
    have hd : double.sub b a = some (R (M b - M a)) := by
      rw [sub_fin b a (by rw [(w_pos hb).1]; exact hb) (by rw [(w_pos ha).1]; exact ha), V_pos ha, V_pos hb, (w_pos ha).2, (w_pos hb).2]
      have e1 : ((M b : Int) - M a).natAbs = M b - M a := by omega
      rw [e1, show decide ((M b : Int) - M a < 0) = false by simp; omega]
      split
      · rw [mk_ff]
      · rw [mkf]
    generalize hdd : R (M b - M a) = d at *
    have wd := w_pos (x := d) (by omega)
    have hp : double.div d cw = some (DV d c) := by
      rw [div_pow d cw (by omega) h1 h3, wd.2, h2, wd.1, h4]
      have : pl d - ((c : Int) - 52) - 52 = pl d - c := by omega
      rw [this, mk_xff]; unfold DV; rfl
    have hP : DV d c < 9218868437227405312 ∧ M a + M (DV d c) ≤ M b := by
      by_cases h0 : M b - M a = 0
      · rw [h0] at hdd
        have : d = 0 := by rw [← hdd]; decide
        subst this
        rw [DV_zero, M_zero]; exact ⟨by decide, by omega⟩
      · have := DV_R (n := M b - M a) (c := c) (by omega) (by omega) hb (by omega) hc
        rw [hdd] at this
        exact ⟨this.1, by omega⟩
    have hs : double.add a (DV d c) = some (R (M a + M (DV d c))) := by
      rw [add_fin _ _ (by rw [(w_pos ha).1]; exact ha) (by rw [(w_pos hP.1).1]; exact hP.1), V_pos ha, V_pos hP.1, (w_pos ha).2, (w_pos hP.1).2]
      have e1 : ((M a : Int) + M (DV d c)).natAbs = M a + M (DV d c) := by omega
      rw [e1, show decide ((M a : Int) + M (DV d c) < 0) = false by simp; omega]
      split
      · rw [mk_ff2]
      · rw [mkf]
    have s1 : a ≤ R (M a + M (DV d c)) := by
      have : R (M a) ≤ R (M a + M (DV d c)) := R_mono (by omega)
      rwa [R_M a ha] at this
    have s2 : R (M a + M (DV d c)) ≤ b := by
      have : R (M a + M (DV d c)) ≤ R (M b) := R_mono hP.2
      rwa [R_M b hb] at this
    refine ⟨d, _, _, hd, hp, hs, by omega, by omega, by omega, by omega, ?_, by omega⟩
    rw [show decide (b < a) = false by simp; omega, wd.1, mkf]
  · have h5 : M b < M a := by
      have : ¬ M a ≤ M b := fun hh => h (mm.1 hh)
      omega
    have hR : R (M a - M b) ≤ a := by
      have : R (M a - M b) ≤ R (M a) := R_mono (by omega)
      rwa [R_M a ha] at this
    have hd : double.sub b a = some (mkw true (R (M a - M b))) := by
      rw [sub_fin b a (by rw [(w_pos hb).1]; exact hb) (by rw [(w_pos ha).1]; exact ha), V_pos ha, V_pos hb, (w_pos ha).2, (w_pos hb).2]
      have e1 : ((M b : Int) - M a).natAbs = M a - M b := by omega
      rw [e1, if_neg (by omega), show decide ((M b : Int) - M a < 0) = true by simp; omega]
    generalize hdd : R (M a - M b) = d at *
    have r1 := rg_mkw true d (by omega)
    have g1 := sg_mkw true d (by omega)
    have hP : DV d c < 9218868437227405312 ∧ M (DV d c) ≤ M a - M b := by
      have := DV_R (n := M a - M b) (c := c) (by omega) (by omega) ha (by omega) hc
      rw [hdd] at this
      exact this
    have hp : double.div (mkw true d) cw = some (mkw true (DV d c)) := by
      rw [div_pow _ cw (by omega) h1 h3, g1, h2, r1, h4]
      have : pl d - ((c : Int) - 52) - 52 = pl d - c := by omega
      rw [this, mk_xtf]; unfold DV; rfl
    have r2 := rg_mkw true (DV d c) (by omega)
    have g2 := sg_mkw true (DV d c) (by omega)
    have hs : double.add a (mkw true (DV d c)) = some (R (M a - M (DV d c))) := by
      rw [add_fin _ _ (by rw [(w_pos ha).1]; exact ha) (by rw [r2]; exact hP.1), V_pos ha, V_neg (by omega), (w_pos ha).2, g2]
      have e1 : ((M a : Int) + -(M (DV d c) : Int)).natAbs = M a - M (DV d c) := by omega
      rw [e1, show decide ((M a : Int) + -(M (DV d c) : Int) < 0) = false by simp; omega]
      split
      · rw [mk_ft2]
      · rw [mkf]
    have s1 : b ≤ R (M a - M (DV d c)) := by
      have : R (M b) ≤ R (M a - M (DV d c)) := R_mono (by omega)
      rwa [R_M b hb] at this
    have s2 : R (M a - M (DV d c)) ≤ a := by
      have : R (M a - M (DV d c)) ≤ R (M a) := R_mono (by omega)
      rwa [R_M a ha] at this
    refine ⟨_, _, _, hd, hp, hs, by omega, by omega, by omega, by omega, ?_, by unfold mkw; rw [if_pos rfl]; omega⟩
    rw [show decide (b < a) = true by simp; omega, r1]

theorem step8 {a b : Nat} (ha : a < 9218868437227405312) (hb : b < 9218868437227405312) : ∃ d p s, Step a b 4620693217682128896 d p s :=
  step (c := 3) ha hb (by decide) (by decide) (by decide) (by decide) (by decide)
theorem step4 {a b : Nat} (ha : a < 9218868437227405312) (hb : b < 9218868437227405312) : ∃ d p s, Step a b 4616189618054758400 d p s :=
  step (c := 2) ha hb (by decide) (by decide) (by decide) (by decide) (by decide)
end FK
