/-
  Entry: EntryLong: an entry has six bytes, five for each event, three for each input that is not zero.
-/
import Derived.Test.YtembppihfcclcaaN
namespace Go.Proofs.Ytembppihfcclcaa
set_option linter.unusedVariables false
open Go.ChangeShapes Go.WideShapes Go.ChangeAt Go.RowKit

theorem evs_rank (E : Nat → Nat → Int) : ∀ n, evsOk E n = true → ∀ i, i < n → ((E i 0 = 1 ∨ E i 0 = 2) ∧ 0 ≤ E i 1 ∧ E i 1 < 8 ∧ 1 ≤ E i 2 ∧ E i 2 ≤ 60000 ∧ 0 ≤ E i 3 ∧ E i 3 < 12) ∧ (i : Int) ≤ (2 - E i 0) * 8 + E i 1
  | 0, _, i, hi => by omega
  | n + 1, h, i, hi => by
    unfold evsOk at h
    rw [Bool.and_eq_true, Bool.and_eq_true] at h
    obtain ⟨h1, h2, h3⟩ := h
    have ih := evs_rank E n h1
    by_cases e : i = n
    · subst e
      have hm := (mayEv_iff _ _ _ _).1 h2
      refine ⟨hm, ?_⟩
      cases i with
      | zero => have := hm.1; omega
      | succ i =>
        have hp := (ih i (by omega))
        have h3' : wrongEv (E i 0) (E i 1) (E (i + 1) 0) (E (i + 1) 1) = false := by simpa using h3
        unfold wrongEv at h3'
        simp only [Bool.or_eq_false_iff, Bool.and_eq_false_iff, decide_eq_false_iff_not] at h3'
        have := hm.1
        have := hp.1.1
        have := hp.2
        omega
    · exact ih i (by omega)
theorem evsOk_le {E : Nat → Nat → Int} {n : Nat} (h : evsOk E n = true) : n ≤ 16 := by
  cases n with
  | zero => omega
  | succ n =>
    have := evs_rank E (n + 1) h n (by omega)
    omega
theorem mayE_le {fr : Int} {n : Nat} {E : Nat → Nat → Int} {I : Nat → Int} (h : mayE fr n E I = true) : n ≤ 16 := evsOk_le (mayE_parts h).2.1
end Go.Proofs.Ytembppihfcclcaa
