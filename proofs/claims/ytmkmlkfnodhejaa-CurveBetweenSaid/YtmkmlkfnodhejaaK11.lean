/-
  Doubles: More on doubles.
-/
import Derived.Test.YtmkmlkfnodhejaaK10
import Derived.WalkKit
open Ieee
namespace FK
set_option linter.unusedVariables false

def INF : Nat := 9218868437227405312
def nanB (x : Nat) : Bool := decide (9218868437227405312 < rg x)

theorem order_nan1 {x : Nat} (y : Nat) (h : 9218868437227405312 < rg x) : double.order x y = none := by
  unfold Format.order
  rw [read_nan x h]
  simp only [Datum.order]
theorem order_nan2 (x : Nat) {y : Nat} (h : 9218868437227405312 < rg y) : double.order x y = none := by
  unfold Format.order
  rw [read_nan y h]
  cases double.read x <;> simp only [Datum.order]

theorem nan_iff (x : Nat) : (double.order x x != some .eq) = nanB x := by
  unfold nanB
  by_cases h : 9218868437227405312 < rg x
  · rw [order_nan1 x h]; simp [h]
  · rw [eq_self x (by omega)]; simp [h]
theorem lt_any (x y : Nat) : (double.order x y == some .lt) = (!nanB x && !nanB y && decide (sr x < sr y)) := by
  unfold nanB
  by_cases hx : 9218868437227405312 < rg x
  · rw [order_nan1 y hx]; simp [hx]
  · by_cases hy : 9218868437227405312 < rg y
    · rw [order_nan2 x hy]; simp [hy]
    · rw [lt_iff (by omega) (by omega)]; simp [hx, hy]
theorem gt_any (x y : Nat) : (double.order x y == some .gt) = (!nanB x && !nanB y && decide (sr y < sr x)) := by
  unfold nanB
  by_cases hx : 9218868437227405312 < rg x
  · rw [order_nan1 y hx]; simp [hx]
  · by_cases hy : 9218868437227405312 < rg y
    · rw [order_nan2 x hy]; simp [hy]
    · rw [gt_iff (by omega) (by omega)]; simp [hx, hy]
theorem eq_any (x y : Nat) : (double.order x y == some .eq) = (!nanB x && !nanB y && decide (sr x = sr y)) := by
  unfold nanB
  by_cases hx : 9218868437227405312 < rg x
  · rw [order_nan1 y hx]; simp [hx]
  · by_cases hy : 9218868437227405312 < rg y
    · rw [order_nan2 x hy]; simp [hy]
    · rw [eq_iff (by omega) (by omega)]; simp [hx, hy]
theorem le_any (x y : Nat) : (double.order x y == some .lt || double.order x y == some .eq) = (!nanB x && !nanB y && decide (sr x ≤ sr y)) := by
  rw [lt_any, eq_any]
  cases nanB x <;> cases nanB y <;> simp
  by_cases h : sr x < sr y
  · simp [h]; omega
  · by_cases h2 : sr x = sr y
    · simp [h2]
    · simp [h, h2]; omega
theorem ge_any (x y : Nat) : (double.order x y == some .gt || double.order x y == some .eq) = (!nanB x && !nanB y && decide (sr y ≤ sr x)) := by
  rw [gt_any, eq_any]
  cases nanB x <;> cases nanB y <;> simp
  by_cases h : sr y < sr x
  · simp [h]; omega
  · by_cases h2 : sr x = sr y
    · simp [h2]
    · simp [h, h2]; omega

/-- Where a float stands among all. -/
def rank (x : Nat) : Int := if nanB x then 9223372036854775807 else if sg x then -(rg x : Int) - 1 else rg x

theorem write_inf (s : Bool) : double.write (.infinity s) = mkw s 9218868437227405312 := by cases s <;> decide +kernel

theorem nn_mkw (s : Bool) (r : Nat) (h : r ≤ 9218868437227405312) : nanB (mkw s r) = false := by
  unfold nanB
  rw [rg_mkw _ _ (by omega)]
  simp; omega

theorem fin_or {x : Nat} (h : nanB x = false) : rg x < 9218868437227405312 ∨ rg x = 9218868437227405312 := by
  unfold nanB at h; simp at h; omega

/-- A sum of two numbers is a number, or is none. -/
theorem add_nn {x y : Nat} (hx : nanB x = false) (hy : nanB y = false) : double.add x y = none ∨ ∃ z, double.add x y = some z ∧ nanB z = false := by
  rcases fin_or hx with h1 | h1 <;> rcases fin_or hy with h2 | h2
  · right
    rw [add_fin x y h1 h2]
    exact ⟨_, rfl, nn_mkw _ _ (rung_le_inf _ _)⟩
  · right
    unfold Format.add
    rw [read_fin x h1, read_inf y h2]
    exact ⟨_, rfl, by rw [write_inf]; exact nn_mkw _ _ (Nat.le_refl _)⟩
  · right
    unfold Format.add
    rw [read_inf x h1, read_fin y h2]
    exact ⟨_, rfl, by rw [write_inf]; exact nn_mkw _ _ (Nat.le_refl _)⟩
  · unfold Format.add
    rw [read_inf x h1, read_inf y h2]
    cases hs : sg x <;> cases ht : sg y <;> simp [Datum.sum, write_inf, nn_mkw]

/-- What is taken of another number is a number. -/
theorem sub_nn {x y : Nat} (hx : nanB x = false) (hy : nanB y = false) (hne : sr x ≠ sr y) : ∃ z, double.sub x y = some z ∧ nanB z = false := by
  rcases fin_or hx with h1 | h1 <;> rcases fin_or hy with h2 | h2
  · rw [sub_fin x y h1 h2]
    exact ⟨_, rfl, nn_mkw _ _ (rung_le_inf _ _)⟩
  · unfold Format.sub
    rw [read_fin x h1, read_inf y h2]
    exact ⟨_, rfl, by rw [write_inf]; exact nn_mkw _ _ (Nat.le_refl _)⟩
  · unfold Format.sub
    rw [read_inf x h1, opp_read y h2]
    exact ⟨_, rfl, by rw [write_inf]; exact nn_mkw _ _ (Nat.le_refl _)⟩
  · unfold Format.sub
    rw [read_inf x h1, read_inf y h2]
    unfold sr at hne
    rw [h1, h2] at hne
    cases hs : sg x <;> cases ht : sg y <;> rw [hs, ht] at hne <;> simp [Datum.sum, Datum.opposite, write_inf, nn_mkw] at hne ⊢
/-- A part of a number is a number. -/
theorem mul_nn {x u : Nat} (hx : nanB x = false) (h0 : 0 < u) (h1 : u < 9218868437227405312) : ∃ z, double.mul x u = some z ∧ nanB z = false := by
  obtain ⟨e1, e2⟩ := w_pos h1
  rcases fin_or hx with h | h
  · rw [mul_fin x u h (by rw [e1]; exact h1)]
    exact ⟨_, rfl, nn_mkw _ _ (rung_le_inf _ _)⟩
  · unfold Format.mul
    rw [read_inf x h, read_fin u (by rw [e1]; exact h1), e1]
    have : mg u ≠ 0 := mg_ne h0
    simp only [Datum.product]
    rw [if_neg this]
    exact ⟨_, rfl, by rw [write_inf]; exact nn_mkw _ _ (Nat.le_refl _)⟩

/-- A number brought between nought and one. -/
def unit (t : Nat) : Nat := if nanB t || decide (sr t ≤ 0) then 0 else if decide (4607182418800017408 ≤ sr t) then 4607182418800017408 else t
theorem unit_le (t : Nat) (ht : t < 18446744073709551616) : unit t ≤ 4607182418800017408 := by
  unfold unit
  split
  · omega
  · split
    · omega
    · rename_i h1 h2
      simp at h1 h2
      have := mkw_self t ht
      unfold sr at h1 h2
      cases hs : sg t with
      | true => rw [hs] at h1; simp at h1; omega
      | false => rw [hs] at this h2; unfold mkw at this; simp at this h2; omega
theorem unit_id {u : Nat} (h : u ≤ 4607182418800017408) : unit u = u := by
  have e := sr_pos (x := u) (by omega)
  obtain ⟨e1, e2⟩ := w_pos (x := u) (by omega)
  unfold unit
  have hn : nanB u = false := by unfold nanB; rw [e1]; simp; omega
  rw [hn, e]
  by_cases h0 : u = 0
  · subst h0; rfl
  · rw [if_neg (by simp; omega)]
    by_cases h1 : u = 4607182418800017408
    · subst h1; rfl
    · rw [if_neg (by simp; omega)]
end FK
