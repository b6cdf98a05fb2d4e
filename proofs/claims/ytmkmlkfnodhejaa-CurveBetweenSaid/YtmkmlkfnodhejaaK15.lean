/-
  Doubles: 
-/
import Derived.Test.YtmkmlkfnodhejaaK14
open Ieee
namespace FK
set_option linter.unusedVariables false

def SRv (v : Int) : Int := if v < 0 then -(R v.natAbs : Int) else R v.natAbs
theorem R_zero : R 0 = 0 := by decide +kernel
theorem SRv_mono {v w : Int} (h : v ≤ w) : SRv v ≤ SRv w := by
  unfold SRv
  by_cases h1 : v < 0
  · rw [if_pos h1]
    by_cases h2 : w < 0
    · rw [if_pos h2]
      have := R_mono (m := w.natAbs) (n := v.natAbs) (by omega)
      omega
    · rw [if_neg h2]; omega
  · rw [if_neg h1, if_neg (by omega)]
    have := R_mono (m := v.natAbs) (n := w.natAbs) (by omega)
    omega
theorem sr_V {x : Nat} (hx : rg x < 9218868437227405312) : sr x = SRv (V x) := by
  unfold SRv sr V
  have hR := R_M (rg x) hx
  cases hs : sg x with
  | false =>
    simp only [Bool.false_eq_true, if_false]
    rw [if_neg (by omega), Int.natAbs_natCast, hR]
  | true =>
    simp only [if_true]
    by_cases h0 : M (rg x) = 0
    · have := (M_eq_zero hx).1 h0
      rw [h0, this]
      rw [if_neg (by omega)]
      simp [R_zero]
    · rw [if_pos (by omega), Int.natAbs_neg, Int.natAbs_natCast, hR]
theorem R_inf (m : Nat) : R m ≤ 9218868437227405312 := rung_le_inf m _
theorem nan_mkw (s : Bool) (m : Nat) : nanB (mkw s (R m)) = false := by
  have := R_inf m
  unfold nanB
  rw [rg_mkw _ _ (by omega)]
  simp; omega
theorem sr_sum (v : Int) (t : Bool) : sr (mkw (if v = 0 then t else decide (v < 0)) (R v.natAbs)) = SRv v := by
  have h := R_inf v.natAbs
  unfold sr SRv
  rw [rg_mkw _ _ (by omega), sg_mkw _ _ (by omega)]
  by_cases h0 : v = 0
  · subst h0
    simp [R_zero]
  · rw [if_neg h0]
    by_cases h1 : v < 0
    · simp [h1]
    · simp [h1]
theorem add_sr {x y : Nat} (hx : rg x < 9218868437227405312) (hy : rg y < 9218868437227405312) : ∃ z, double.add x y = some z ∧ nanB z = false ∧ sr z = SRv (V x + V y) :=
  ⟨_, add_fin x y hx hy, nan_mkw _ _, sr_sum _ _⟩
theorem sub_sr {x y : Nat} (hx : rg x < 9218868437227405312) (hy : rg y < 9218868437227405312) : ∃ z, double.sub x y = some z ∧ nanB z = false ∧ sr z = SRv (V x - V y) :=
  ⟨_, sub_fin x y hx hy, nan_mkw _ _, sr_sum _ _⟩
/-- A part of a way, from its beginning: between the two ends. -/
theorem mix_mid {A d B u : Nat} (hA : rg A < 9218868437227405312) (hd : rg d < 9218868437227405312) (hB : rg B < 9218868437227405312) (hV : V A + V d = V B) (hu : u ≤ 4607182418800017408) :
    ∃ m x, double.mul d u = some m ∧ double.add A m = some x ∧ nanB x = false ∧ ((sr A ≤ sr x ∧ sr x ≤ sr B) ∨ (sr B ≤ sr x ∧ sr x ≤ sr A)) := by
  obtain ⟨e1, e2⟩ := w_pos (x := u) (by omega)
  have hm := mul_fin d u hd (by omega)
  rw [e1, e2, Bool.xor_false] at hm
  have hp : P (rg d) u ≤ rg d := by
    have := P_mono (r := u) (s := 4607182418800017408) (rg d) (by omega) (by decide) hu
    rw [P_comm u, P_one hd] at this
    exact this
  have hm' : double.mul d u = some (mkw (sg d) (P (rg d) u)) := hm
  obtain ⟨p, ep⟩ : ∃ p, P (rg d) u = p := ⟨_, rfl⟩
  rw [ep] at hm' hp
  have hM := (M_mono_iff (r := p) (s := rg d) (by omega) hd).2 hp
  have fm : rg (mkw (sg d) p) < 9218868437227405312 := by rw [rg_mkw _ _ (by omega)]; omega
  have vm : V (mkw (sg d) p) = if sg d then -(M p : Int) else M p := by
    unfold V
    rw [rg_mkw _ _ (by omega), sg_mkw _ _ (by omega)]
  obtain ⟨x, hx, nx, sx⟩ := add_sr hA fm
  refine ⟨_, x, hm', hx, nx, ?_⟩
  rw [sx, sr_V hA, sr_V hB, vm]
  have vd : V d = if sg d then -(M (rg d) : Int) else M (rg d) := rfl
  cases hs : sg d with
  | false =>
    rw [hs] at vd
    simp only [Bool.false_eq_true, if_false] at vd ⊢
    exact Or.inl ⟨SRv_mono (by omega), SRv_mono (by omega)⟩
  | true =>
    rw [hs] at vd
    simp only [if_true] at vd ⊢
    exact Or.inr ⟨SRv_mono (by omega), SRv_mono (by omega)⟩
end FK
