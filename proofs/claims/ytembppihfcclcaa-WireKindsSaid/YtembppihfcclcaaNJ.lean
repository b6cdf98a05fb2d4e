/-
  Wire: WireKinds in plain words.
-/
import Derived.Test.YtembppihfcclcaaNB
namespace Go.Proofs.Ytembppihfcclcaa
set_option linter.unusedVariables false
open Go.ChangeShapes Go.WideShapes Go.ChangeAt Go.RowKit

set_option linter.unusedSimpArgs false
/-- The least message of a kind. -/
def kF (k : Nat) : Nat → Int := fun j => if j = 0 then (k : Int) else if j = 6 ∧ (k = 2 ∨ k = 4) then 1 else if j = 10 ∧ k = 7 then 1 else 0
def kM (k : Nat) : Msg := ⟨kF k, if k = 4 then 1 else 0, fun _ => 0, if k = 5 then 1 else 0, fun _ => nE, if k = 7 then [1] else []⟩
theorem kM_may (k : Nat) (h1 : 1 ≤ k) (h2 : k ≤ 14) : mayM (kM k) = true := by
  have h0 : (List.range 14).all (fun j => mayM (kM (j + 1))) = true := by kernel_rfl
  have := List.all_eq_true.1 h0 (k - 1) (List.mem_range.2 (by omega))
  rwa [show k - 1 + 1 = k by omega] at this
/-- The parts of a kind, as the document's letters; a letter's number. -/
def kS (k : Nat) : List Nat := if k = 2 then [115, 103, 102] else if k = 3 then [99] else if k = 4 then [115, 103, 102, 105] else if k = 5 then [102, 108] else if k = 6 then [102] else if k = 7 then [102, 110, 111, 109, 100] else if k = 8 then [110, 98] else if k = 10 then [99] else if k = 11 then [110] else if k = 12 then [110] else if k = 13 then [102, 109] else []
def pS (p : Nat) : Nat := if p = 0 then 115 else if p = 1 then 103 else if p = 2 then 102 else if p = 3 then 99 else if p = 4 then 110 else if p = 5 then 111 else if p = 6 then 98 else if p = 7 then 109 else if p = 8 then 105 else if p = 9 then 108 else 100
/-- Is a letter among the first i parts of a kind? -/
def kHas (k p : Nat) : Nat → Bool
  | 0 => false
  | i + 1 => kHas k p i || ((kS k).getD i 0 == pS p)
/-- The message with one part turned. -/
def kpM (k p : Nat) : Msg :=
  ⟨if p = 0 then uF (kF k) 5 3 else if p = 1 then uF (kF k) 6 2 else if p = 2 then uF (kF k) 7 4 else if p = 3 then uF (kF k) 8 5 else if p = 4 then (if k = 7 then uF (uF (kF k) 9 6) 10 7 else uF (kF k) 9 6) else if p = 5 then uF (kF k) 10 9 else if p = 6 then uF (kF k) 11 10 else if p = 7 then uF (kF k) 12 11 else kF k,
   if p = 8 then 1 else (kM k).ni, if p = 8 then (fun j => if j = 0 then 1 else 0) else fun _ => 0,
   if p = 9 then 1 else (kM k).nl, if p = 2 then (fun _ => ⟨4, 0, fun _ _ => 0, fun _ => 0⟩) else fun _ => nE,
   if p = 10 then [4, 5] else (kM k).d⟩
theorem kpM_may (k p : Nat) (h1 : 1 ≤ k) (h2 : k ≤ 14) (hp : p < 11) : mayM (kpM k p) = kHas k p (kS k).length := by
  have h0 : (List.range 14).all (fun j => (List.range 11).all (fun p => mayM (kpM (j + 1) p) == kHas (j + 1) p (kS (j + 1)).length)) = true := by kernel_rfl
  have h3 := List.all_eq_true.1 h0 (k - 1) (List.mem_range.2 (by omega))
  have h4 := eq_of_beq (List.all_eq_true.1 h3 p (List.mem_range.2 hp))
  rwa [show k - 1 + 1 = k by omega] at h4
end Go.Proofs.Ytembppihfcclcaa
