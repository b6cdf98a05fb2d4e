/-
  Curve: the Go text of CurveUnits returns true for every input.
-/
import Derived.Test.YtmkmlkfnodhejaaG
import Derived.Test.YtmkmlkfnodhejaaK14
namespace Go.Proofs.Ytmkmlkfnodhejaa
set_option linter.unusedVariables false
open Go.ChangeShapes Go.WideShapes Go.ChangeAt Go.RowKit
attribute [local go_sem] run_neg_f64 frombits_run bits_run

theorem nn_le {x : Nat} (h : x ≤ 4611686018427387904) : FK.nanB x = false := by
  unfold FK.nanB
  rw [(FK.w_pos (x := x) (by omega)).1]; simp; omega
theorem sg_le {x : Nat} (h : x ≤ 4611686018427387904) : FK.sg x = false := by
  have := FK.sg_mkw false x (by omega)
  rwa [FK.mkf] at this
theorem lt0 {x : Nat} (h : x ≤ 4611686018427387904) : (fo x 0 == some .lt) = false := by
  rw [fo_lt, nn_le h, nn_zero, sr_zero, FK.sr_pos (by omega)]; simp
theorem ge0 {x : Nat} (h : x ≤ 4611686018427387904) : (fo x 0 == some .gt || fo x 0 == some .eq) = true := by
  rw [fo_ge, nn_le h, nn_zero, sr_zero, FK.sr_pos (by omega)]; simp
theorem gtc {x c : Nat} (h : x ≤ c) (hc : c ≤ 4611686018427387904) : (fo x c == some .gt) = false := by
  rw [fo_gt, nn_le hc, nn_le (Nat.le_trans h hc), FK.sr_pos (by omega), FK.sr_pos (by omega)]; simp; omega
set_option maxHeartbeats 1000000 in
theorem law_CurveUnits (a0 a1 : Nat) (w : World) (w0 : (Lit.float .f64 a0).wf = true) (w1 : (Lit.float .f64 a1).wf = true) :
    Calls Try.prog 6 #[.float .f64 a0, .float .f64 a1] w fun e w' => e = .returned (.bool true) ∧ Below w.heap.size w w' := by
  have hs := FK.unit_le a0 (f64_bd w0)
  have hu := FK.unit_le a1 (f64_bd w1)
  have S0 := ge0 (x := FK.unit a0) (by omega)
  obtain ⟨u, eu⟩ : ∃ u, FK.unit a1 = u := ⟨_, rfl⟩
  have hU : FK.unit a1 = if FK.nanB a1 || decide (FK.sr a1 ≤ 0) then 0 else if decide (4607182418800017408 ≤ FK.sr a1) then 4607182418800017408 else a1 := rfl
  rw [eu] at hu hU
  obtain ⟨s, d, v, e0, hE⟩ := FK.ease_ex hu
  have he := FK.ease_le hu hE
  have HE := Lib.hid (isEase_of hE)
  rw [← eu] at HE
  have U0 := lt0 (x := u) (by omega)
  have U1 := gtc hu (by decide)
  have U2 := nn_le (x := u) (by omega)
  rw [← fo_nan] at U2
  have US := Lib.hid (sg_le (x := u) (by omega))
  have UB : u < 18446744073709551616 := by omega
  have E0 := lt0 (x := e0) (by omega)
  have E1 := gtc he (by decide)
  have UI := Lib.hid (FK.unit_id hu)
  have EU := Lib.hid eu
  have HUB := Lib.hid UB
  clear w0 w1 hs hu hE he UB eu
  cases nt : (fo a1 a1 != some .eq) with
  | true =>
    have nt' := nt
    rw [fo_nan] at nt'
    have h0 : (fo a1 0 == some .lt || fo a1 0 == some .eq) = false := by rw [fo_le, nt']; rfl
    have h1 : (fo a1 4607182418800017408 == some .gt || fo a1 4607182418800017408 == some .eq) = false := by rw [fo_ge, nt']; rfl
    clear nt' hU
    go_enter Try.func6, Try.ntmps6
    go_wp2_with fail
    refine (unit_any _ _).mono ?_
    rintro e w' ⟨rfl, rfl⟩
    rw [EU.out]
    go_wp2_with fail
    refine (ease_any _ _ _ _ _ HE.out _).mono ?_
    rintro e w' ⟨rfl, rfl⟩
    go_wp2_with fail
    refine (unit_any _ _).mono ?_
    rintro e w' ⟨rfl, rfl⟩
    rw [UI.out]
    go_wp2_with fail
    refine (same_any _ _ HUB.out HUB.out _).mono ?_
    rintro e w' ⟨rfl, rfl⟩
    rw [sameB_self]
    go_wp2_with fail
    refine (signbit_any _ HUB.out _).mono ?_
    rintro e w' ⟨rfl, rfl⟩
    rw [US.out]
    go_wp2_with fail
    refine (told_law _).mono ?_
    rintro e w1 ⟨rfl, hB⟩
    go_wp2_with fail
    refine (unit_any _ _).mono ?_
    rintro e w' ⟨rfl, rfl⟩
    go_wp2_with fail
    go_ret
    exact ⟨rfl, hB⟩
  | false =>
    have nt' := nt
    rw [fo_nan] at nt'
    have l0 := fo_le a1 0
    rw [nt', nn_zero, sr_zero] at l0
    have l1 := fo_ge a1 4607182418800017408
    rw [nt', nn_one, sr_one] at l1
    simp only [Bool.not_false, Bool.true_and] at l0 l1
    cases h0 : (fo a1 0 == some .lt || fo a1 0 == some .eq) with
    | true =>
      clear hU l0 l1 nt'
      go_enter Try.func6, Try.ntmps6
      go_wp2_with fail
      refine (unit_any _ _).mono ?_
      rintro e w' ⟨rfl, rfl⟩
      rw [EU.out]
      go_wp2_with fail
      refine (ease_any _ _ _ _ _ HE.out _).mono ?_
      rintro e w' ⟨rfl, rfl⟩
      go_wp2_with fail
      refine (unit_any _ _).mono ?_
      rintro e w' ⟨rfl, rfl⟩
      rw [UI.out]
      go_wp2_with fail
      refine (same_any _ _ HUB.out HUB.out _).mono ?_
      rintro e w' ⟨rfl, rfl⟩
      rw [sameB_self]
      go_wp2_with fail
      refine (signbit_any _ HUB.out _).mono ?_
      rintro e w' ⟨rfl, rfl⟩
      rw [US.out]
      go_wp2_with fail
      refine (told_law _).mono ?_
      rintro e w1 ⟨rfl, hB⟩
      go_wp2_with fail
      refine (unit_any _ _).mono ?_
      rintro e w' ⟨rfl, rfl⟩
      go_wp2_with fail
      go_ret
      exact ⟨rfl, hB⟩
    | false =>
      cases h1 : (fo a1 4607182418800017408 == some .gt || fo a1 4607182418800017408 == some .eq) with
      | true =>
        clear hU l0 l1 nt'
        go_enter Try.func6, Try.ntmps6
        go_wp2_with fail
        refine (unit_any _ _).mono ?_
        rintro e w' ⟨rfl, rfl⟩
        rw [EU.out]
        go_wp2_with fail
        refine (ease_any _ _ _ _ _ HE.out _).mono ?_
        rintro e w' ⟨rfl, rfl⟩
        go_wp2_with fail
        refine (unit_any _ _).mono ?_
        rintro e w' ⟨rfl, rfl⟩
        rw [UI.out]
        go_wp2_with fail
        refine (same_any _ _ HUB.out HUB.out _).mono ?_
        rintro e w' ⟨rfl, rfl⟩
        rw [sameB_self]
        go_wp2_with fail
        refine (signbit_any _ HUB.out _).mono ?_
        rintro e w' ⟨rfl, rfl⟩
        rw [US.out]
        go_wp2_with fail
        refine (told_law _).mono ?_
        rintro e w1 ⟨rfl, hB⟩
        go_wp2_with fail
        refine (unit_any _ _).mono ?_
        rintro e w' ⟨rfl, rfl⟩
        go_wp2_with fail
        go_ret
        exact ⟨rfl, hB⟩
      | false =>
        have hq : u = a1 := by
          rw [hU, ← l0, ← l1, h0, h1, nt']; rfl
        have h2 : (fo u a1 == some .eq) = true := by rw [hq, fo_eq, nt']; simp
        clear hU l0 l1 nt' hq
        go_enter Try.func6, Try.ntmps6
        go_wp2_with fail
        refine (unit_any _ _).mono ?_
        rintro e w' ⟨rfl, rfl⟩
        rw [EU.out]
        go_wp2_with fail
        refine (ease_any _ _ _ _ _ HE.out _).mono ?_
        rintro e w' ⟨rfl, rfl⟩
        go_wp2_with fail
        refine (unit_any _ _).mono ?_
        rintro e w' ⟨rfl, rfl⟩
        rw [UI.out]
        go_wp2_with fail
        refine (same_any _ _ HUB.out HUB.out _).mono ?_
        rintro e w' ⟨rfl, rfl⟩
        rw [sameB_self]
        go_wp2_with fail
        refine (signbit_any _ HUB.out _).mono ?_
        rintro e w' ⟨rfl, rfl⟩
        rw [US.out]
        go_wp2_with fail
        refine (told_law _).mono ?_
        rintro e w1 ⟨rfl, hB⟩
        go_wp2_with fail
        refine (unit_any _ _).mono ?_
        rintro e w' ⟨rfl, rfl⟩
        go_wp2_with fail
        go_ret
        exact ⟨rfl, hB⟩
end Go.Proofs.Ytmkmlkfnodhejaa
