/-
  Curve: the Go text of CurveRange, CurveEnds and CurveAsks returns true for every input.
-/
import Derived.Test.YtmkmlkfnodhejaaE
namespace Go.Proofs.Ytmkmlkfnodhejaa
set_option linter.unusedVariables false
open Go.ChangeShapes Go.WideShapes Go.ChangeAt Go.RowKit
attribute [local go_sem] run_neg_f64 frombits_run bits_run

theorem Left_half : FK.Left 4602678819172646912 = 4602678819172646912 := by decide +kernel
theorem turnY_bd {x : Nat} (h : x ≤ 4607182418800017408) : -4602678819172646912 ≤ FK.sr (turnY x) ∧ FK.sr (turnY x) < 4602678819172646912 ∧ turnY x < 18446744073709551616 := by
  unfold turnY
  by_cases h1 : 4602678819172646912 ≤ x
  · rw [if_pos h1]
    by_cases h2 : x = 4607182418800017408
    · rw [if_pos h2, sr_zero]; omega
    · rw [if_neg h2]
      have hl := FK.Left_anti (u := 4602678819172646912) (v := x) (by decide) h h1
      rw [Left_half] at hl
      have e1 := sr_def (FK.mkw true (FK.Left x))
      rw [FK.sg_mkw _ _ (by omega), FK.rg_mkw _ _ (by omega), if_pos rfl] at e1
      rw [e1]
      generalize FK.Left x = l at *
      refine ⟨by omega, by omega, ?_⟩
      show 9223372036854775808 + l < _
      omega
  · rw [if_neg h1, FK.sr_pos (by omega)]; omega
theorem turnG_bd (a : Nat) : FK.nanB (turnG a) = false ∧ -4602678819172646912 ≤ FK.sr (turnG a) ∧ FK.sr (turnG a) < 4602678819172646912 ∧ (FK.sr (turnG a) = 0 → turnG a = 0) ∧ turnG a < 18446744073709551616 := by
  have zero : FK.nanB 0 = false ∧ -4602678819172646912 ≤ FK.sr 0 ∧ FK.sr 0 < 4602678819172646912 ∧ (FK.sr 0 = 0 → (0 : Nat) = 0) ∧ 0 < 18446744073709551616 := by decide
  unfold turnG
  by_cases hf : FK.rg a < 9218868437227405312
  · rw [if_pos hf]
    unfold turnF
    by_cases hz : FK.sr (turnY (FK.R (FK.Fr a))) = 0
    · rw [if_pos hz]; exact zero
    · rw [if_neg hz]
      have hx := x_le a
      obtain ⟨h1, h2, h3⟩ := turnY_bd hx
      exact ⟨turnY_nn hx, h1, h2, fun h => absurd h hz, h3⟩
  · rw [if_neg hf]; exact zero
theorem sr_mhalf : FK.sr 13826050856027422720 = -4602678819172646912 := by decide
theorem nn_mhalf : FK.nanB 13826050856027422720 = false := by decide
theorem law_CurveRange (a0 : Nat) (w : World) (w0 : (Lit.float .f64 a0).wf = true) :
    Calls Try.prog 8 #[.float .f64 a0] w fun e w' => e = .returned (.bool true) ∧ Below w.heap.size w w' := by
  have HA := Lib.hid (f64_bd w0)
  obtain ⟨hn, h1, h2, h3, h4⟩ := turnG_bd a0
  obtain ⟨y, hy⟩ : ∃ y, turnG a0 = y := ⟨_, rfl⟩
  rw [hy] at hn h1 h2 h3 h4
  have HY := Lib.hid hy
  have c1 : (fo y 13826050856027422720 == some .gt || fo y 13826050856027422720 == some .eq) = true := by rw [fo_ge, hn, nn_mhalf, sr_mhalf]; simp; omega
  have c2 : (fo y 4602678819172646912 == some .lt) = true := by rw [fo_lt, hn, nn_half, sr_half]; simp; omega
  have c3 := fo_eq y 0
  rw [hn, nn_zero, sr_zero] at c3
  simp only [Bool.not_false, Bool.true_and] at c3
  have H3 := Lib.hid h3
  have H4 := Lib.hid h4
  clear w0 hy hn h1 h2 h3 h4
  by_cases hz : FK.sr y = 0
  · have hy0 := H3.out hz
    subst hy0
    have c4 : (fo 0 0 != some .eq) = false := by decide +kernel
    clear c3 hz
    go_enter Try.func8, Try.ntmps8
    go_wp2_with fail
    refine (turn_any _ HA.out _).mono ?_
    rintro e w' ⟨rfl, rfl⟩
    rw [HY.out]
    go_wp2_with fail
    refine (told_law _).mono ?_
    rintro e w1 ⟨rfl, hB⟩
    go_wp2_with fail
    refine (signbit_any _ (by decide) _).mono ?_
    rintro e w' ⟨rfl, rfl⟩
    rw [show FK.sg 0 = false from by decide]
    go_wp2_with fail
    go_ret
    exact ⟨rfl, hB⟩
  · rw [decide_eq_false hz] at c3
    have c4 : (fo y 0 != some .eq) = true := by
      rw [bne, c3]; rfl
    clear hz
    go_enter Try.func8, Try.ntmps8
    go_wp2_with fail
    refine (turn_any _ HA.out _).mono ?_
    rintro e w' ⟨rfl, rfl⟩
    rw [HY.out]
    go_wp2_with fail
    refine (told_law _).mono ?_
    rintro e w1 ⟨rfl, hB⟩
    go_wp2_with fail
    go_ret
    exact ⟨rfl, hB⟩
theorem mixF_nn {a b t : Nat} (ht : t < 18446744073709551616) (na : FK.nanB a = false) (nb : FK.nanB b = false) : FK.nanB (mixF a b t) = false := by
  unfold mixF
  by_cases h0 : FK.unit t = 0
  · rw [if_pos h0]; exact na
  rw [if_neg h0]
  by_cases h1 : FK.unit t = 4607182418800017408
  · rw [if_pos h1]; exact nb
  rw [if_neg h1, na, nb, if_neg (by simp)]
  by_cases hs : FK.sr a = FK.sr b
  · rw [if_pos hs]; exact na
  rw [if_neg hs]
  have hu := FK.unit_le t ht
  obtain ⟨d, hd, nd⟩ := FK.sub_nn nb na (fun h => hs h.symm)
  obtain ⟨m, hm, nm⟩ := FK.mul_nn nd (u := FK.unit t) (by omega) (by omega)
  rw [hd]
  simp only
  rw [hm]
  simp only
  rcases FK.add_nn na nm with hx | ⟨x, hx, nx⟩
  · rw [hx]; exact nb
  · rw [hx]; exact nx
theorem mixF_same (a t : Nat) (na : FK.nanB a = false) : mixF a a t = a := by
  unfold mixF
  split
  · rfl
  · split
    · rfl
    · rw [na, if_neg (by simp), if_pos rfl]
theorem mixF_lt {a b t : Nat} (ha : a < 18446744073709551616) (hb : b < 18446744073709551616) (ht : t < 18446744073709551616) : mixF a b t < 18446744073709551616 := by
  unfold mixF
  repeat' split
  all_goals first | assumption | decide | skip
  rename_i x hx
  exact Ieee.double.add_lt hx
theorem sameB_self (a : Nat) : sameB a a = true := by unfold sameB; simp
set_option maxHeartbeats 1000000 in
theorem law_CurveEnds (a0 a1 a2 : Nat) (w : World) (w0 : (Lit.float .f64 a0).wf = true) (w1 : (Lit.float .f64 a1).wf = true) (w2 : (Lit.float .f64 a2).wf = true) :
    Calls Try.prog 5 #[.float .f64 a0, .float .f64 a1, .float .f64 a2] w fun e w' => e = .returned (.bool true) ∧ Below w.heap.size w w' := by
  have HA := Lib.hid (f64_bd w0)
  have HB := Lib.hid (f64_bd w1)
  have HT := Lib.hid (f64_bd w2)
  clear w0 w1 w2
  have HU := Lib.hid (show FK.unit a2 = if FK.nanB a2 || decide (FK.sr a2 ≤ 0) then 0 else if decide (4607182418800017408 ≤ FK.sr a2) then 4607182418800017408 else a2 from rfl)
  cases nt : (fo a2 a2 != some .eq) with
  | true =>
    have hu : FK.unit a2 = 0 := by rw [HU.out]; rw [fo_nan] at nt; rw [nt]; rfl
    have HM := Lib.hid (show mixF a0 a1 a2 = a0 by unfold mixF; rw [if_pos hu])
    clear hu
    go_enter Try.func5, Try.ntmps5
    go_wp2_with fail
    refine (mix_any _ _ _ HT.out _).mono ?_
    rintro e w2 ⟨rfl, hB2⟩
    rw [HM.out]
    go_wp2_with fail
    refine (told_law _).mono ?_
    rintro e w3 ⟨rfl, hB3⟩
    go_wp2_with fail
    refine (same_any _ _ HA.out HA.out _).mono ?_
    rintro e w' ⟨rfl, rfl⟩
    rw [sameB_self]
    go_wp2_with fail
    go_ret
    exact ⟨rfl, hB2.trans (hB3.mono hB2.size)⟩
  | false =>
    have nt' := nt
    rw [fo_nan] at nt'
    have l0 := fo_le a2 0
    rw [nt', nn_zero, sr_zero] at l0
    have l1 := fo_ge a2 4607182418800017408
    rw [nt', nn_one, sr_one] at l1
    simp only [Bool.not_false, Bool.true_and] at l0 l1
    cases h0 : (fo a2 0 == some .lt || fo a2 0 == some .eq) with
    | true =>
      have hu : FK.unit a2 = 0 := by rw [HU.out, ← l0, h0, nt']; rfl
      have HM := Lib.hid (show mixF a0 a1 a2 = a0 by unfold mixF; rw [if_pos hu])
      clear hu l0 l1 nt'
      go_enter Try.func5, Try.ntmps5
      go_wp2_with fail
      refine (mix_any _ _ _ HT.out _).mono ?_
      rintro e w2 ⟨rfl, hB2⟩
      rw [HM.out]
      go_wp2_with fail
      refine (told_law _).mono ?_
      rintro e w3 ⟨rfl, hB3⟩
      go_wp2_with fail
      refine (same_any _ _ HA.out HA.out _).mono ?_
      rintro e w' ⟨rfl, rfl⟩
      rw [sameB_self]
      go_wp2_with fail
      go_ret
      exact ⟨rfl, hB2.trans (hB3.mono hB2.size)⟩
    | false =>
      cases h1 : (fo a2 4607182418800017408 == some .gt || fo a2 4607182418800017408 == some .eq) with
      | true =>
        have hu : FK.unit a2 = 4607182418800017408 := by rw [HU.out, ← l0, ← l1, h0, h1, nt']; rfl
        have HM := Lib.hid (show mixF a0 a1 a2 = a1 by unfold mixF; rw [if_neg (by rw [hu]; decide), if_pos hu])
        clear hu l0 l1 nt'
        go_enter Try.func5, Try.ntmps5
        go_wp2_with fail
        refine (mix_any _ _ _ HT.out _).mono ?_
        rintro e w2 ⟨rfl, hB2⟩
        rw [HM.out]
        go_wp2_with fail
        refine (told_law _).mono ?_
        rintro e w3 ⟨rfl, hB3⟩
        go_wp2_with fail
        refine (same_any _ _ HB.out HB.out _).mono ?_
        rintro e w' ⟨rfl, rfl⟩
        rw [sameB_self]
        go_wp2_with fail
        go_ret
        exact ⟨rfl, hB2.trans (hB3.mono hB2.size)⟩
      | false =>
        have hu0 : FK.unit a2 ≠ 0 := by
          rw [HU.out, ← l0, ← l1, h0, h1, nt']
          simp only [Bool.or_self, Bool.false_eq_true, if_false]
          rw [h0] at l0
          have := of_decide_eq_false l0.symm
          intro e; rw [e, sr_zero] at this; omega
        have hu1 : FK.unit a2 ≠ 4607182418800017408 := by
          rw [HU.out, ← l0, ← l1, h0, h1, nt']
          simp only [Bool.or_self, Bool.false_eq_true, if_false]
          rw [h1] at l1
          have := of_decide_eq_false l1.symm
          intro e; rw [e, sr_one] at this; omega
        clear l0 l1 nt'
        cases na : (fo a0 a0 != some .eq) with
        | true =>
          have na' := na
          rw [fo_nan] at na'
          have HM := Lib.hid (show mixF a0 a1 a2 = 9221120237041090561 by unfold mixF; rw [if_neg hu0, if_neg hu1, na']; rfl)
          have hnn : (fo 9221120237041090561 9221120237041090561 != some .eq) = true := by decide +kernel
          clear hu0 hu1 na'
          go_enter Try.func5, Try.ntmps5
          go_wp2_with fail
          refine (mix_any _ _ _ HT.out _).mono ?_
          rintro e w2 ⟨rfl, hB2⟩
          rw [HM.out]
          go_wp2_with fail
          refine (told_law _).mono ?_
          rintro e w3 ⟨rfl, hB3⟩
          go_wp2_with fail
          go_ret
          exact ⟨rfl, hB2.trans (hB3.mono hB2.size)⟩
        | false =>
          cases nb : (fo a1 a1 != some .eq) with
          | true =>
            have nb' := nb
            rw [fo_nan] at nb'
            have HM := Lib.hid (show mixF a0 a1 a2 = 9221120237041090561 by unfold mixF; rw [if_neg hu0, if_neg hu1, nb', Bool.or_true]; rfl)
            have hnn : (fo 9221120237041090561 9221120237041090561 != some .eq) = true := by decide +kernel
            clear hu0 hu1 nb'
            go_enter Try.func5, Try.ntmps5
            go_wp2_with fail
            refine (mix_any _ _ _ HT.out _).mono ?_
            rintro e w2 ⟨rfl, hB2⟩
            rw [HM.out]
            go_wp2_with fail
            refine (told_law _).mono ?_
            rintro e w3 ⟨rfl, hB3⟩
            go_wp2_with fail
            go_ret
            exact ⟨rfl, hB2.trans (hB3.mono hB2.size)⟩
          | false =>
            have na' := na
            rw [fo_nan] at na'
            have nb' := nb
            rw [fo_nan] at nb'
            obtain ⟨m, hm⟩ : ∃ m, mixF a0 a1 a2 = m := ⟨_, rfl⟩
            have HM := Lib.hid hm
            have hnm := mixF_nn (a := a0) (b := a1) HT.out na' nb'
            rw [hm] at hnm
            have hmm : (fo m m == some .eq) = true := by rw [fo_eq, hnm]; simp
            have HS := Lib.hid (mixF_same a0 a2 na')
            clear hu0 hu1 na' nb' hm hnm
            go_enter Try.func5, Try.ntmps5
            go_wp2_with fail
            refine (mix_any _ _ _ HT.out _).mono ?_
            rintro e w2 ⟨rfl, hB2⟩
            rw [HM.out]
            go_wp2_with fail
            refine (told_law _).mono ?_
            rintro e w3 ⟨rfl, hB3⟩
            go_wp2_with fail
            refine (mix_any _ _ _ HT.out _).mono ?_
            rintro e w4 ⟨rfl, hB4⟩
            rw [HS.out]
            go_wp2_with fail
            refine (same_any _ _ HA.out HA.out _).mono ?_
            rintro e w' ⟨rfl, rfl⟩
            rw [sameB_self]
            go_wp2_with fail
            go_ret
            exact ⟨rfl, (hB2.trans (hB3.mono hB2.size)).trans (hB4.mono (Nat.le_trans hB2.size hB3.size))⟩
end Go.Proofs.Ytmkmlkfnodhejaa
