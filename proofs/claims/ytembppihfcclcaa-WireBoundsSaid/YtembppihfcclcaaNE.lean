/-
  Wire: WireBounds's law.
-/
import Derived.Test.YtembppihfcclcaaNC
import Derived.Test.YtembppihfcclcaaND
namespace Go.Proofs.Ytembppihfcclcaa
set_option linter.unusedVariables false
open Go.ChangeShapes Go.WideShapes Go.ChangeAt Go.RowKit

theorem law_WireBounds (a0 : Int) (w0 : (Lit.int .i64 a0).wf = true) (a1 : Bool) (w : World) :
    Calls Try.prog 10 #[.int .i64 a0, .bool a1] w fun e w' => e = .returned (.bool true) ∧ Below w.heap.size w w' := by
  cases a1
  · exact bounds_false a0 w0 w
  · exact bounds_true a0 w0 w
end Go.Proofs.Ytembppihfcclcaa
