/-
  Doubles: A part of one over a number from one up.
-/
import Derived.Test.YtoefnagenooaiaaK9
namespace FK
set_option linter.unusedVariables false
open Ieee

/-- A word that is no less than nought: a number, the infinity, or nought of either sign. -/
def NW (x : Nat) : Prop := x ≤ 9218868437227405312 ∨ x = 9223372036854775808
theorem NW_sg {x : Nat} (h : NW x) : rg x ≤ 9218868437227405312 ∧ (sg x = false ∨ rg x = 0) := by
  rcases h with h | h
  · by_cases e : x = 9218868437227405312
    · subst e; exact ⟨by decide, Or.inl (by decide)⟩
    · have := w_pos (x := x) (by omega)
      rw [this.1]; exact ⟨h, Or.inl this.2⟩
  · subst h; exact ⟨by decide, Or.inr (by decide)⟩
theorem NW_of {r : Nat} (s : Bool) (h : r ≤ 9218868437227405312) (hs : s = true → r = 0) : NW (mkw s r) := by
  cases s
  · exact Or.inl h
  · rw [hs rfl]; exact Or.inr rfl
theorem NW_V {x : Nat} (h : NW x) : V x = M (rg x) := by
  have := NW_sg h
  unfold V
  rcases this.2 with e | e
  · rw [e]; rfl
  · rw [e, M_zero]; simp
theorem rung_zero_of (p : Int) : rung 0 p = 0 := by unfold rung; rw [if_pos rfl]
theorem NW_inf {x : Nat} (h : NW x) (hr : ¬ rg x < 9218868437227405312) : x = 9218868437227405312 := by
  rcases h with h | h
  · by_cases e : x < 9218868437227405312
    · have := w_pos e; omega
    · omega
  · subst h; exact absurd (by decide) hr

theorem mul4 {x : Nat} (h : NW x) (hr : rg x < 9218868437227405312) : ∃ z, double.mul 4616189618054758400 x = some z ∧ NW z := by
  refine ⟨_, mul_fin _ x (by decide) hr, NW_of _ (rung_le_inf _ _) fun hs => ?_⟩
  have := (NW_sg h).2
  have e : sg 4616189618054758400 = false := by decide
  rw [e, Bool.false_xor] at hs
  rcases this with e | e
  · rw [e] at hs; cases hs
  · rw [e, show mg 0 = 0 by decide, Nat.mul_zero, rung_zero_of]
theorem add_inf {x : Nat} (hx : rg x < 9218868437227405312) : double.add x 9218868437227405312 = some 9218868437227405312 := by
  unfold Format.add
  rw [read_fin x hx, read_inf 9218868437227405312 (by decide)]
  rfl
theorem addN {x y : Nat} (h : NW x) (hr : rg x < 9218868437227405312) (h2 : NW y) : ∃ z, double.add x y = some z ∧ NW z := by
  by_cases hy : rg y < 9218868437227405312
  · refine ⟨_, add_fin x y hr hy, ?_⟩
    rw [NW_V h, NW_V h2]
    refine NW_of _ (rung_le_inf _ _) fun hs => ?_
    split at hs
    · rename_i e
      rw [e]; decide
    · exfalso
      have : decide ((M (rg x) : Int) + M (rg y) < 0) = false := by simp; omega
      rw [this] at hs; cases hs
  · rw [NW_inf h2 hy]
    exact ⟨_, add_inf hr, Or.inl (Nat.le_refl _)⟩
theorem div_inf : double.div 9218868437227405312 4636737291354636288 = some 9218868437227405312 := by decide +kernel
theorem div100 {x : Nat} (h : NW x) : ∃ z, double.div x 4636737291354636288 = some z ∧ NW z := by
  by_cases hx : rg x < 9218868437227405312
  · refine ⟨_, div_fin x _ hx (by decide) (by decide), NW_of _ (rung_le_inf _ _) fun hs => ?_⟩
    have e : sg 4636737291354636288 = false := by decide
    rw [e, Bool.xor_false] at hs
    rcases (NW_sg h).2 with e | e
    · rw [e] at hs; cases hs
    · rw [e]; decide +kernel
  · rw [NW_inf h hx]
    exact ⟨_, div_inf, Or.inl (Nat.le_refl _)⟩
theorem one_add {x : Nat} (h : NW x) : ∃ z, double.add 4607182418800017408 x = some z ∧ 4607182418800017408 ≤ z ∧ z ≤ 9218868437227405312 := by
  by_cases hx : rg x < 9218868437227405312
  · refine ⟨_, add_fin _ x (by decide) hx, ?_⟩
    have v1 : V 4607182418800017408 = M 4607182418800017408 := V_pos (by decide)
    have hp : 0 < M 4607182418800017408 := by
      have := M_eq_zero (r := 4607182418800017408) (by decide)
      have : M 4607182418800017408 ≠ 0 := fun h => by have := this.1 h; revert this; decide
      omega
    have hm : R (M 4607182418800017408) = 4607182418800017408 := R_M _ (by decide)
    rw [v1, NW_V h]
    generalize M 4607182418800017408 = H at *
    rw [if_neg (by omega), show decide ((H : Int) + M (rg x) < 0) = false by simp; omega, mkf]
    have e1 : ((H : Int) + M (rg x)).natAbs = H + M (rg x) := by omega
    rw [e1]
    have : R H ≤ R (H + M (rg x)) := R_mono (by omega)
    exact ⟨by omega, rung_le_inf _ _⟩
  · rw [NW_inf h hx]
    exact ⟨_, add_inf (by decide), by decide, Nat.le_refl _⟩
/-- One less a part. -/
def Left (u : Nat) : Nat := R (M 4607182418800017408 - M u)
theorem one_sub {u : Nat} (h : u ≤ 4607182418800017408) : double.sub 4607182418800017408 u = some (Left u) := by
  have hu := w_pos (x := u) (by omega)
  have ho := w_pos (x := 4607182418800017408) (by decide)
  have hM := (M_mono_iff (r := u) (s := 4607182418800017408) (by omega) (by decide)).2 h
  rw [sub_fin _ u (by decide) (by rw [hu.1]; omega), V_pos (by decide), V_pos (by omega), hu.2, ho.2]
  unfold Left
  generalize M 4607182418800017408 = H at *
  have e1 : ((H : Int) - M u).natAbs = H - M u := by omega
  rw [e1, show decide ((H : Int) - M u < 0) = false by simp; omega]
  split
  · rw [mk_ff]
  · rw [mkf]
theorem Left_le (u : Nat) : Left u ≤ 4607182418800017408 := by
  have : R (M 4607182418800017408 - M u) ≤ R (M 4607182418800017408) := R_mono (Nat.sub_le _ _)
  rwa [R_M _ (by decide)] at this
theorem Left_anti {u v : Nat} (hu : u ≤ 4607182418800017408) (hv : v ≤ 4607182418800017408) (h : u ≤ v) : Left v ≤ Left u := by
  have := (M_mono_iff (r := u) (s := v) (by omega) (by omega)).2 h
  exact R_mono (Nat.sub_le_sub_left this _)
/-- A part of one, over a number from one up. -/
def QI (l d : Nat) : Nat := if d < 9218868437227405312 then Q l d else 0
theorem mg_ne {d : Nat} (h : 0 < d) : mg d ≠ 0 := fun e => by have := mg_zero e; omega
theorem div_QI {l d : Nat} (hl : l ≤ 4607182418800017408) (h1 : 4607182418800017408 ≤ d) (h2 : d ≤ 9218868437227405312) : double.div l d = some (QI l d) := by
  have wl := w_pos (x := l) (by omega)
  unfold QI
  by_cases hd : d < 9218868437227405312
  · have wd := w_pos hd
    rw [if_pos hd, div_fin l d (by omega) (by omega) (by rw [wd.1]; exact mg_ne (by omega)), wl.1, wl.2, wd.1, wd.2, mk_xff]
  · have : d = 9218868437227405312 := by omega
    subst this
    rw [if_neg hd]
    unfold Format.div
    rw [read_fin l (by omega), read_inf 9218868437227405312 (by decide), wl.2]
    unfold Datum.quotient
    show some (double.write (.number (false ^^ sg 9218868437227405312) 0 0)) = _
    decide +kernel
theorem QI_le {l d : Nat} (hl : l ≤ 4607182418800017408) (h1 : 4607182418800017408 ≤ d) : QI l d ≤ 4607182418800017408 := by
  unfold QI
  split
  · rename_i h
    exact Q_le_one (by omega) h (mg_ne (by omega)) (by omega)
  · exact Nat.zero_le _
theorem QI_mono {l k d : Nat} (hk : k ≤ 4607182418800017408) (h1 : 4607182418800017408 ≤ d) (h : l ≤ k) : QI l d ≤ QI k d := by
  unfold QI
  split
  · exact Q_mono (by omega) (by omega) (mg_ne (by omega)) h
  · exact Nat.le_refl _
end FK
