/-
  Curve: the few examples are told; the Go text of CurveOrder, CurveEnds, CurveRange and CurveAsks returns true for every input.
-/
import Derived.Test.YtmkmlkfnodhejaaD
import Derived.Test.YtmkmlkfnodhejaaK13
namespace Go.Proofs.Ytmkmlkfnodhejaa
set_option linter.unusedVariables false
open Go.ChangeShapes Go.WideShapes Go.ChangeAt Go.RowKit
attribute [local go_sem] run_neg_f64 frombits_run bits_run

theorem f64_bd {a : Nat} (h : (Lit.float .f64 a).wf = true) : a < 18446744073709551616 := by simpa [Lit.wf] using h
theorem isEase_of {u s d v e : Nat} (h : FK.EaseB u s d v e) : IsEase u s d v e := ⟨h.h1, h.h2, h.h3, h.h4⟩
theorem told_law (w : World) : Calls Try.prog 11 #[] w fun e w' => e = .returned (.bool true) ∧ Below w.heap.size w w' := by
  have e1 : (fo 4607182418800017408 4607182418800017408 == some .eq) = true := o_o
  have e2 : (fo 13821547256400052224 13821547256400052224 == some .eq) = true := by decide +kernel
  have e3 : (fo 0 0 == some .eq) = true := z_eq
  have e4 : (fo 4602678819172646912 4602678819172646912 == some .eq) = true := by decide +kernel
  have e5 : (fo 4613937818241073152 4613937818241073152 == some .eq) = true := by decide +kernel
  have hE : IsEase (FK.unit 4602678819172646912) 4598175219545276416 4607182418800017408 4611686018427387904 4602678819172646912 :=
    ⟨by decide +kernel, by decide +kernel, by decide +kernel, by decide +kernel⟩
  go_enter Try.func11, Try.ntmps11
  go_wp2_with fail
  refine (nan_val _).mono ?_
  rintro e w' ⟨rfl, rfl⟩
  go_wp2_with fail
  refine (copysign_any _ _ (by decide) (by decide) _).mono ?_
  rintro e w' ⟨rfl, rfl⟩
  rw [show FK.mkw (FK.sg 13830554455654793216) (FK.rg 0) = 9223372036854775808 from by decide]
  go_wp2_with fail
  refine (mix_any _ _ _ (by decide) _).mono ?_
  rintro e w1 ⟨rfl, hB1⟩
  rw [show mixF 0 4616189618054758400 4598175219545276416 = 4607182418800017408 from by decide +kernel]
  go_wp2_with fail
  refine (turn_any _ (by decide) _).mono ?_
  rintro e w' ⟨rfl, rfl⟩
  rw [show turnG 4604930618986332160 = 13821547256400052224 from by decide +kernel]
  go_wp2_with fail
  refine (same_any _ _ (by decide) (by decide) _).mono ?_
  rintro e w' ⟨rfl, rfl⟩
  rw [show sameB 9221120237041090561 9221120237041090561 = true from by decide +kernel]
  go_wp2_with fail
  refine (same_any _ _ (by decide) (by decide) _).mono ?_
  rintro e w' ⟨rfl, rfl⟩
  rw [show sameB 0 9223372036854775808 = false from by decide +kernel]
  go_wp2_with fail
  refine (less_any _ _ (by decide) (by decide) _).mono ?_
  rintro e w' ⟨rfl, rfl⟩
  rw [show lessB 9223372036854775808 0 = true from by decide +kernel]
  go_wp2_with fail
  refine (less_any _ _ (by decide) (by decide) _).mono ?_
  rintro e w' ⟨rfl, rfl⟩
  rw [show lessB 0 9223372036854775808 = false from by decide +kernel]
  go_wp2_with fail
  refine (inf_pos _).mono ?_
  rintro e w' ⟨rfl, rfl⟩
  go_wp2_with fail
  refine (less_any _ _ (by decide) (by decide) _).mono ?_
  rintro e w' ⟨rfl, rfl⟩
  rw [show lessB 9218868437227405312 9221120237041090561 = true from by decide +kernel]
  go_wp2_with fail
  refine (unit_any _ _).mono ?_
  rintro e w' ⟨rfl, rfl⟩
  rw [show FK.unit 9221120237041090561 = 0 from by decide +kernel]
  go_wp2_with fail
  refine (ease_any _ _ _ _ _ hE _).mono ?_
  rintro e w' ⟨rfl, rfl⟩
  go_wp2_with fail
  refine (mix_any _ _ _ (by decide) _).mono ?_
  rintro e w2 ⟨rfl, hB2⟩
  rw [show mixF 4613937818241073152 9221120237041090561 0 = 4613937818241073152 from by decide +kernel]
  go_wp2_with fail
  go_ret
  exact ⟨rfl, hB1.trans (hB2.mono hB1.size)⟩
set_option maxHeartbeats 1000000 in
theorem law_CurveOrder (a0 a1 a2 : Nat) (w : World) (w0 : (Lit.float .f64 a0).wf = true) (w1 : (Lit.float .f64 a1).wf = true) (w2 : (Lit.float .f64 a2).wf = true) :
    Calls Try.prog 4 #[.float .f64 a0, .float .f64 a1, .float .f64 a2] w fun e w' => e = .returned (.bool true) ∧ Below w.heap.size w w' := by
  have HA := Lib.hid (f64_bd w0)
  have HB := Lib.hid (f64_bd w1)
  have HC := Lib.hid (f64_bd w2)
  clear w0 w1 w2
  obtain ⟨l1, h1⟩ : ∃ l, lessB a0 a1 = l := ⟨_, rfl⟩
  obtain ⟨l2, h2⟩ : ∃ l, lessB a1 a0 = l := ⟨_, rfl⟩
  obtain ⟨l3, h3⟩ : ∃ l, sameB a0 a1 = l := ⟨_, rfl⟩
  obtain ⟨l4, h4⟩ : ∃ l, lessB a1 a2 = l := ⟨_, rfl⟩
  obtain ⟨l5, h5⟩ : ∃ l, lessB a0 a2 = l := ⟨_, rfl⟩
  have h6 : lessB a0 a0 = false := by unfold lessB; simp
  have h7 : sameB a0 a0 = true := by unfold sameB; simp
  have hc : (l1 = true ∧ l2 = false ∧ l3 = false) ∨ (l1 = false ∧ l2 = true ∧ l3 = false) ∨ (l1 = false ∧ l2 = false ∧ l3 = true) := by
    unfold lessB at h1 h2
    unfold sameB at h3
    rw [← h1, ← h2, ← h3]
    simp only [decide_eq_true_eq, decide_eq_false_iff_not]
    omega
  have hd : l1 = true → l4 = true → l5 = true := by
    unfold lessB at h1 h4 h5
    rw [← h1, ← h4, ← h5]
    simp only [decide_eq_true_eq]
    omega
  have L1 := Lib.hid h1
  have L2 := Lib.hid h2
  have L3 := Lib.hid h3
  have L4 := Lib.hid h4
  have L5 := Lib.hid h5
  have L6 := Lib.hid h6
  have L7 := Lib.hid h7
  clear h1 h2 h3 h4 h5 h6 h7
  rcases hc with ⟨rfl, rfl, rfl⟩ | ⟨rfl, rfl, rfl⟩ | ⟨rfl, rfl, rfl⟩
  · cases l4
    · clear hd
      go_enter Try.func4, Try.ntmps4
      go_wp2_with fail
      refine (less_any _ _ HA.out HB.out _).mono ?_
      rintro e w' ⟨rfl, rfl⟩
      rw [L1.out]
      go_wp2_with fail
      refine (less_any _ _ HB.out HA.out _).mono ?_
      rintro e w' ⟨rfl, rfl⟩
      rw [L2.out]
      go_wp2_with fail
      refine (same_any _ _ HA.out HB.out _).mono ?_
      rintro e w' ⟨rfl, rfl⟩
      rw [L3.out]
      go_wp2_with fail
      refine (told_law _).mono ?_
      rintro e w1 ⟨rfl, hB⟩
      go_wp2_with fail
      refine (less_any _ _ HA.out HB.out _).mono ?_
      rintro e w' ⟨rfl, rfl⟩
      rw [L1.out]
      go_wp2_with fail
      refine (less_any _ _ HB.out HC.out _).mono ?_
      rintro e w' ⟨rfl, rfl⟩
      rw [L4.out]
      go_wp2_with fail
      refine (less_any _ _ HA.out HA.out _).mono ?_
      rintro e w' ⟨rfl, rfl⟩
      rw [L6.out]
      go_wp2_with fail
      refine (same_any _ _ HA.out HA.out _).mono ?_
      rintro e w' ⟨rfl, rfl⟩
      rw [L7.out]
      go_wp2_with fail
      go_ret
      exact ⟨rfl, hB⟩
    · obtain rfl := hd rfl rfl
      clear hd
      go_enter Try.func4, Try.ntmps4
      go_wp2_with fail
      refine (less_any _ _ HA.out HB.out _).mono ?_
      rintro e w' ⟨rfl, rfl⟩
      rw [L1.out]
      go_wp2_with fail
      refine (less_any _ _ HB.out HA.out _).mono ?_
      rintro e w' ⟨rfl, rfl⟩
      rw [L2.out]
      go_wp2_with fail
      refine (same_any _ _ HA.out HB.out _).mono ?_
      rintro e w' ⟨rfl, rfl⟩
      rw [L3.out]
      go_wp2_with fail
      refine (told_law _).mono ?_
      rintro e w1 ⟨rfl, hB⟩
      go_wp2_with fail
      refine (less_any _ _ HA.out HB.out _).mono ?_
      rintro e w' ⟨rfl, rfl⟩
      rw [L1.out]
      go_wp2_with fail
      refine (less_any _ _ HB.out HC.out _).mono ?_
      rintro e w' ⟨rfl, rfl⟩
      rw [L4.out]
      go_wp2_with fail
      refine (less_any _ _ HA.out HC.out _).mono ?_
      rintro e w' ⟨rfl, rfl⟩
      rw [L5.out]
      go_wp2_with fail
      refine (less_any _ _ HA.out HA.out _).mono ?_
      rintro e w' ⟨rfl, rfl⟩
      rw [L6.out]
      go_wp2_with fail
      refine (same_any _ _ HA.out HA.out _).mono ?_
      rintro e w' ⟨rfl, rfl⟩
      rw [L7.out]
      go_wp2_with fail
      go_ret
      exact ⟨rfl, hB⟩
  · clear hd
    go_enter Try.func4, Try.ntmps4
    go_wp2_with fail
    refine (less_any _ _ HA.out HB.out _).mono ?_
    rintro e w' ⟨rfl, rfl⟩
    rw [L1.out]
    go_wp2_with fail
    refine (less_any _ _ HB.out HA.out _).mono ?_
    rintro e w' ⟨rfl, rfl⟩
    rw [L2.out]
    go_wp2_with fail
    refine (same_any _ _ HA.out HB.out _).mono ?_
    rintro e w' ⟨rfl, rfl⟩
    rw [L3.out]
    go_wp2_with fail
    refine (told_law _).mono ?_
    rintro e w1 ⟨rfl, hB⟩
    go_wp2_with fail
    refine (less_any _ _ HA.out HB.out _).mono ?_
    rintro e w' ⟨rfl, rfl⟩
    rw [L1.out]
    go_wp2_with fail
    refine (less_any _ _ HA.out HA.out _).mono ?_
    rintro e w' ⟨rfl, rfl⟩
    rw [L6.out]
    go_wp2_with fail
    refine (same_any _ _ HA.out HA.out _).mono ?_
    rintro e w' ⟨rfl, rfl⟩
    rw [L7.out]
    go_wp2_with fail
    go_ret
    exact ⟨rfl, hB⟩
  · clear hd
    go_enter Try.func4, Try.ntmps4
    go_wp2_with fail
    refine (less_any _ _ HA.out HB.out _).mono ?_
    rintro e w' ⟨rfl, rfl⟩
    rw [L1.out]
    go_wp2_with fail
    refine (less_any _ _ HB.out HA.out _).mono ?_
    rintro e w' ⟨rfl, rfl⟩
    rw [L2.out]
    go_wp2_with fail
    refine (same_any _ _ HA.out HB.out _).mono ?_
    rintro e w' ⟨rfl, rfl⟩
    rw [L3.out]
    go_wp2_with fail
    refine (told_law _).mono ?_
    rintro e w1 ⟨rfl, hB⟩
    go_wp2_with fail
    refine (less_any _ _ HA.out HB.out _).mono ?_
    rintro e w' ⟨rfl, rfl⟩
    rw [L1.out]
    go_wp2_with fail
    refine (less_any _ _ HA.out HA.out _).mono ?_
    rintro e w' ⟨rfl, rfl⟩
    rw [L6.out]
    go_wp2_with fail
    refine (same_any _ _ HA.out HA.out _).mono ?_
    rintro e w' ⟨rfl, rfl⟩
    rw [L7.out]
    go_wp2_with fail
    go_ret
    exact ⟨rfl, hB⟩
end Go.Proofs.Ytmkmlkfnodhejaa
