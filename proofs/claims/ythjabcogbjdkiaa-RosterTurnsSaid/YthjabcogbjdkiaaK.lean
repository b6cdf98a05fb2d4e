/-
  Roster: what the few examples of told come to.
-/
import Derived.Test.YthjabcogbjdkiaaJ
namespace Go.Proofs.Ythjabcogbjdkiaa
set_option linter.unusedVariables false
open Go.ChangeShapes Go.WideShapes Go.ChangeAt Go.RowKit

def tP0 : Nat → Int := fun _ => -1
def tG0 : Nat → Int := fun _ => 0
def tP1 : Nat → Int := updI tP0 0 3
def tG1 : Nat → Int := updI tG0 0 1
def tP2 : Nat → Int := updI tP1 0 (-1)
def tP3 : Nat → Int := updI tP2 0 3
def tG3 : Nat → Int := updI tG1 0 2
theorem k_new (w : World) : Calls Try.prog 6 #[] w fun e w' => e = .returned (.agg (rosL 0 tP0 tG0).toArray) ∧ Below w.heap.size w w' := new_any w
theorem k_take (w : World) : Calls Try.prog 10 #[.agg (rosL 0 tP0 tG0).toArray, .int .i64 0, .int .i64 3] w fun e w' => e = .returned (.tuple #[.agg (rosL 1 tP1 tG1).toArray, .int .i64 0]) ∧ Below w.heap.size w w' :=
  take_yes 0 3 0 tP0 tG0 (by decide +kernel) w
theorem k_take2 (w : World) : Calls Try.prog 10 #[.agg (rosL 1 tP1 tG1).toArray, .int .i64 1, .int .i64 3] w fun e w' => e = .returned (.tuple #[.agg (rosL 1 tP1 tG1).toArray, .int .i64 1]) ∧ Below w.heap.size w w' :=
  take_no 1 1 3 tP1 tG1 (by decide +kernel) w
theorem k_give (w : World) : Calls Try.prog 9 #[.agg (rosL 1 tP1 tG1).toArray, .int .i64 0] w fun e w' => e = .returned (.tuple #[.agg (rosL 2 tP2 tG1).toArray, .int .i64 0]) ∧ Below w.heap.size w w' :=
  give_yes 1 0 tP1 tG1 (by decide) (by decide +kernel) w
theorem k_join1 (w : World) : Calls Try.prog 14 #[.agg (rosL 2 tP2 tG1).toArray, .agg #[.int .i64 1, .int .i64 0, .int .i64 1, .int .i64 3]] w fun e w' => e = .returned (.tuple #[.agg (rosL 2 tP2 tG1).toArray, .int .i64 1]) ∧ Below w.heap.size w w' :=
  join_any 2 0 1 3 tP2 tG1 (by decide +kernel) w
theorem k_join2 (w : World) : Calls Try.prog 14 #[.agg (rosL 2 tP2 tG1).toArray, .agg #[.int .i64 1, .int .i64 0, .int .i64 2, .int .i64 3]] w fun e w' => e = .returned (.tuple #[.agg (rosL 3 tP3 tG3).toArray, .int .i64 0]) ∧ Below w.heap.size w w' :=
  join_any 2 0 2 3 tP2 tG1 (by decide +kernel) w
theorem k_of3 (w : World) : Calls Try.prog 7 #[.agg (rosL 3 tP3 tG3).toArray, .int .i64 3] w fun e w' => e = .returned (.int .i64 0) ∧ Below w.heap.size w w' := by
  refine (of_v 3 3 tP3 tG3 w).mono ?_
  rintro e w' ⟨⟨r, rfl, h⟩, hb⟩
  refine ⟨?_, hb⟩
  rcases h with ⟨-, h | h | h⟩ | ⟨n, hn, rfl, h1, -, -, h2⟩
  · omega
  · have : mayR 3 tP3 tG3 = true := by decide +kernel
    rw [this] at h; cases h
  · exact absurd rfl (h 0 (by decide))
  · by_cases e : n = 0
    · subst e; rfl
    · exact absurd rfl (h2 0 (by omega))
theorem k_of2 (w : World) : Calls Try.prog 7 #[.agg (rosL 2 tP2 tG1).toArray, .int .i64 3] w fun e w' => e = .returned (.int .i64 (-1)) ∧ Below w.heap.size w w' := by
  refine (of_v 2 3 tP2 tG1 w).mono ?_
  rintro e w' ⟨⟨r, rfl, h⟩, hb⟩
  refine ⟨?_, hb⟩
  rcases h with ⟨rfl, -⟩ | ⟨n, hn, rfl, h1, -, -, h2⟩
  · rfl
  · have : ∀ n, n < 8 → tP2 n ≠ 3 := by decide +kernel
    exact absurd h1 (this n hn)
theorem k_free (w : World) : Calls Try.prog 8 #[.agg (rosL 2 tP2 tG1).toArray] w fun e w' => e = .returned (.int .i64 1) ∧ Below w.heap.size w w' := by
  refine (free_any 2 tP2 tG1 w).mono ?_
  rintro e w' ⟨⟨r, rfl, h⟩, hb⟩
  refine ⟨?_, hb⟩
  rcases h with ⟨h, -⟩ | ⟨-, h⟩
  · have : mayR 2 tP2 tG1 = true := by decide +kernel
    rw [this] at h; cases h
  · rcases h with ⟨rfl, h⟩ | ⟨q, h1, rfl, h3, h4, h5, h6⟩
    · exact absurd (h 1 (by decide) (by decide)) (by decide)
    · have e5 := h5 1 (by decide) (by decide) (by decide)
      have e6 : ¬ 1 < q := fun hlt => by
        have := h6 1 hlt (by decide) (by decide)
        have hall : ∀ n, n < 8 → 0 ≤ tG1 n := by decide +kernel
        have := hall q h1
        have e1 : tG1 1 = 0 := rfl
        omega
      have e7 : q ≠ 0 := fun e => by subst e; revert e5; decide
      have : q = 1 := by omega
      subst this; rfl
theorem k_mask (w : World) : Calls Try.prog 13 #[.agg (rosL 3 tP3 tG3).toArray] w fun e w' => e = .returned (.int .i64 1) ∧ Below w.heap.size w w' := by
  refine (mask_any 3 tP3 tG3 w).mono ?_
  rintro e w' ⟨rfl, hb⟩
  exact ⟨by rw [show maskR 3 tP3 tG3 = 1 from by decide +kernel]; rfl, hb⟩
theorem k_may (w : World) : Calls Try.prog 11 #[.agg (rosL 0 tP0 tG0).toArray] w fun e w' => e = .returned (.bool true) ∧ Below w.heap.size w w' := by
  refine (may_v 0 tP0 tG0 w).mono ?_
  rintro e w' ⟨rfl, hb⟩
  exact ⟨by rw [show mayR 0 tP0 tG0 = true from by decide +kernel], hb⟩
end Go.Proofs.Ythjabcogbjdkiaa
