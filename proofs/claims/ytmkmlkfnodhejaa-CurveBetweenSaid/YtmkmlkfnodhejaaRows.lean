/-
  No cell of these rows narrows 'for every input' (looked for: loops, veiled, ifaces, maps, wideKeys, modest, calm, conditions, laid).
  DERIVED. THE GIVEN ROWS OF THIS SEAT. 8 by the template 'for every input the law returns true; each argument reads behind the call as it read before'; 0 by the template 'total and deterministic' (their statements: YtmkmlkfnodhejaaTotals.lean).
  GIVEN WITH THE SEED: the statements are not yours to turn. If you find one false, say at which input.
  Laid BY PROGRAM, IN A SANDBOX (cutbox-rows.mjs): the forced cells as the released guide's own fill.sh prints them over the translation f7725d7817fea193… (all of the seat's roots in one cut). By AI agents, Wed Nov 11 2026. No macro, syntax, notation, axiom, sorry.
-/
import Derived.Test.YtmkmlkfnodhejaaChecked
import GoSem.Claim
import GoSem.ClaimJoined
import GoSem.ClaimMapViews
import Derived.JoinedTies
import Derived.KernelRfl
namespace Go.Proofs.Ytmkmlkfnodhejaa
/- THE CELL 'sum', in the pinned program and in every row, IS THE sha256 OF THE DUMP (.gsa) THAT YtmkmlkfnodhejaaProg.lean LOADS. Nothing in Lean hashes anything: it is a label: what it is worth is what the hold of that sum in a sandbox is worth. -/
noncomputable def Try.pinned : Pinned := { name := "ytmkmlkfnodhejaa", sum := "f7725d7817fea193d52ba0f97af7ac5080ea51b5caacaaefcb7a3d2741975524", checked := Try.checked }
namespace Rows
def none {H : Type} : Left H := { results := [], args := [] }

/-- 'ceilidhlaw3.CurveAsks': WHATEVER THE INPUT: true; the input reads as it did. -/
def curveAsksSpec : ChangeSpec := { name := "curveAsks", fn := fun _ => fun
  | [d1, d2, d3] => { results := [.lit (.bool true)], args := [d1, d2, d3] }
  | _ => none }
def curveAsksRow : OpenClaim := { program := "ytmkmlkfnodhejaa", sum := "f7725d7817fea193d52ba0f97af7ac5080ea51b5caacaaefcb7a3d2741975524", func := "ceilidh/ceilidhlaw3.CurveAsks", spec := "curveAsks", inPlace := ["math.Float64frombits", "math.Float64bits", "math.archFloor", "math.archTrunc"], apart := false }
def CurveAsksSaid : Prop := curveAsksRow.holds Try.pinned (OpenSpec.ofChange curveAsksSpec)

/-- ITS FALSE NEIGHBOUR: 'it returns false'. Refute it at one input. -/
def curveAsksWrong : ChangeSpec := { name := "curveAsks", fn := fun _ => fun
  | [d1, d2, d3] => { results := [.lit (.bool false)], args := [d1, d2, d3] }
  | _ => none }
def CurveAsksWrongFalsely : Prop := curveAsksRow.holds Try.pinned (OpenSpec.ofChange curveAsksWrong)

/-- 'ceilidhlaw3.CurveOrder': WHATEVER THE INPUT: true; the input reads as it did. -/
def curveOrderSpec : ChangeSpec := { name := "curveOrder", fn := fun _ => fun
  | [d1, d2, d3] => { results := [.lit (.bool true)], args := [d1, d2, d3] }
  | _ => none }
def curveOrderRow : OpenClaim := { program := "ytmkmlkfnodhejaa", sum := "f7725d7817fea193d52ba0f97af7ac5080ea51b5caacaaefcb7a3d2741975524", func := "ceilidh/ceilidhlaw3.CurveOrder", spec := "curveOrder", inPlace := ["math.Float64bits", "math.Float64frombits", "math.archFloor", "math.archTrunc"], apart := false }
def CurveOrderSaid : Prop := curveOrderRow.holds Try.pinned (OpenSpec.ofChange curveOrderSpec)

/-- ITS FALSE NEIGHBOUR: 'it returns false'. Refute it at one input. -/
def curveOrderWrong : ChangeSpec := { name := "curveOrder", fn := fun _ => fun
  | [d1, d2, d3] => { results := [.lit (.bool false)], args := [d1, d2, d3] }
  | _ => none }
def CurveOrderWrongFalsely : Prop := curveOrderRow.holds Try.pinned (OpenSpec.ofChange curveOrderWrong)

/-- 'ceilidhlaw3.CurveEnds': WHATEVER THE INPUT: true; the input reads as it did. -/
def curveEndsSpec : ChangeSpec := { name := "curveEnds", fn := fun _ => fun
  | [d1, d2, d3] => { results := [.lit (.bool true)], args := [d1, d2, d3] }
  | _ => none }
def curveEndsRow : OpenClaim := { program := "ytmkmlkfnodhejaa", sum := "f7725d7817fea193d52ba0f97af7ac5080ea51b5caacaaefcb7a3d2741975524", func := "ceilidh/ceilidhlaw3.CurveEnds", spec := "curveEnds", inPlace := ["math.Float64frombits", "math.Float64bits", "math.archFloor", "math.archTrunc"], apart := false }
def CurveEndsSaid : Prop := curveEndsRow.holds Try.pinned (OpenSpec.ofChange curveEndsSpec)

/-- ITS FALSE NEIGHBOUR: 'it returns false'. Refute it at one input. -/
def curveEndsWrong : ChangeSpec := { name := "curveEnds", fn := fun _ => fun
  | [d1, d2, d3] => { results := [.lit (.bool false)], args := [d1, d2, d3] }
  | _ => none }
def CurveEndsWrongFalsely : Prop := curveEndsRow.holds Try.pinned (OpenSpec.ofChange curveEndsWrong)

/-- 'ceilidhlaw3.CurveUnits': WHATEVER THE INPUT: true; the input reads as it did. -/
def curveUnitsSpec : ChangeSpec := { name := "curveUnits", fn := fun _ => fun
  | [d1, d2] => { results := [.lit (.bool true)], args := [d1, d2] }
  | _ => none }
def curveUnitsRow : OpenClaim := { program := "ytmkmlkfnodhejaa", sum := "f7725d7817fea193d52ba0f97af7ac5080ea51b5caacaaefcb7a3d2741975524", func := "ceilidh/ceilidhlaw3.CurveUnits", spec := "curveUnits", inPlace := ["math.Float64bits", "math.Float64frombits", "math.archFloor", "math.archTrunc"], apart := false }
def CurveUnitsSaid : Prop := curveUnitsRow.holds Try.pinned (OpenSpec.ofChange curveUnitsSpec)

/-- ITS FALSE NEIGHBOUR: 'it returns false'. Refute it at one input. -/
def curveUnitsWrong : ChangeSpec := { name := "curveUnits", fn := fun _ => fun
  | [d1, d2] => { results := [.lit (.bool false)], args := [d1, d2] }
  | _ => none }
def CurveUnitsWrongFalsely : Prop := curveUnitsRow.holds Try.pinned (OpenSpec.ofChange curveUnitsWrong)

/-- 'ceilidhlaw3.CurveTurns': WHATEVER THE INPUT: true; the input reads as it did. -/
def curveTurnsSpec : ChangeSpec := { name := "curveTurns", fn := fun _ => fun
  | [d1, d2] => { results := [.lit (.bool true)], args := [d1, d2] }
  | _ => none }
def curveTurnsRow : OpenClaim := { program := "ytmkmlkfnodhejaa", sum := "f7725d7817fea193d52ba0f97af7ac5080ea51b5caacaaefcb7a3d2741975524", func := "ceilidh/ceilidhlaw3.CurveTurns", spec := "curveTurns", inPlace := ["math.Float64bits", "math.Float64frombits", "math.archFloor", "math.archTrunc"], apart := false }
def CurveTurnsSaid : Prop := curveTurnsRow.holds Try.pinned (OpenSpec.ofChange curveTurnsSpec)

/-- ITS FALSE NEIGHBOUR: 'it returns false'. Refute it at one input. -/
def curveTurnsWrong : ChangeSpec := { name := "curveTurns", fn := fun _ => fun
  | [d1, d2] => { results := [.lit (.bool false)], args := [d1, d2] }
  | _ => none }
def CurveTurnsWrongFalsely : Prop := curveTurnsRow.holds Try.pinned (OpenSpec.ofChange curveTurnsWrong)

/-- 'ceilidhlaw3.CurveRange': WHATEVER THE INPUT: true; the input reads as it did. -/
def curveRangeSpec : ChangeSpec := { name := "curveRange", fn := fun _ => fun
  | [d] => { results := [.lit (.bool true)], args := [d] }
  | _ => none }
def curveRangeRow : OpenClaim := { program := "ytmkmlkfnodhejaa", sum := "f7725d7817fea193d52ba0f97af7ac5080ea51b5caacaaefcb7a3d2741975524", func := "ceilidh/ceilidhlaw3.CurveRange", spec := "curveRange", inPlace := ["math.Float64bits", "math.Float64frombits", "math.archFloor", "math.archTrunc"], apart := false }
def CurveRangeSaid : Prop := curveRangeRow.holds Try.pinned (OpenSpec.ofChange curveRangeSpec)

/-- ITS FALSE NEIGHBOUR: 'it returns false'. Refute it at one input. -/
def curveRangeWrong : ChangeSpec := { name := "curveRange", fn := fun _ => fun
  | [d] => { results := [.lit (.bool false)], args := [d] }
  | _ => none }
def CurveRangeWrongFalsely : Prop := curveRangeRow.holds Try.pinned (OpenSpec.ofChange curveRangeWrong)

/-- 'ceilidhlaw3.CurveBetween': WHATEVER THE INPUT: true; the input reads as it did. -/
def curveBetweenSpec : ChangeSpec := { name := "curveBetween", fn := fun _ => fun
  | [d1, d2, d3] => { results := [.lit (.bool true)], args := [d1, d2, d3] }
  | _ => none }
def curveBetweenRow : OpenClaim := { program := "ytmkmlkfnodhejaa", sum := "f7725d7817fea193d52ba0f97af7ac5080ea51b5caacaaefcb7a3d2741975524", func := "ceilidh/ceilidhlaw3.CurveBetween", spec := "curveBetween", inPlace := ["math.Float64frombits", "math.Float64bits", "math.archFloor", "math.archTrunc"], apart := false }
def CurveBetweenSaid : Prop := curveBetweenRow.holds Try.pinned (OpenSpec.ofChange curveBetweenSpec)

/-- ITS FALSE NEIGHBOUR: 'it returns false'. Refute it at one input. -/
def curveBetweenWrong : ChangeSpec := { name := "curveBetween", fn := fun _ => fun
  | [d1, d2, d3] => { results := [.lit (.bool false)], args := [d1, d2, d3] }
  | _ => none }
def CurveBetweenWrongFalsely : Prop := curveBetweenRow.holds Try.pinned (OpenSpec.ofChange curveBetweenWrong)

/-- 'ceilidhlaw3.CurveEases': WHATEVER THE INPUT: true; the input reads as it did. -/
def curveEasesSpec : ChangeSpec := { name := "curveEases", fn := fun _ => fun
  | [d] => { results := [.lit (.bool true)], args := [d] }
  | _ => none }
def curveEasesRow : OpenClaim := { program := "ytmkmlkfnodhejaa", sum := "f7725d7817fea193d52ba0f97af7ac5080ea51b5caacaaefcb7a3d2741975524", func := "ceilidh/ceilidhlaw3.CurveEases", spec := "curveEases", inPlace := ["math.Float64frombits", "math.Float64bits", "math.archFloor", "math.archTrunc"], apart := false }
def CurveEasesSaid : Prop := curveEasesRow.holds Try.pinned (OpenSpec.ofChange curveEasesSpec)

/-- ITS FALSE NEIGHBOUR: 'it returns false'. Refute it at one input. -/
def curveEasesWrong : ChangeSpec := { name := "curveEases", fn := fun _ => fun
  | [d] => { results := [.lit (.bool false)], args := [d] }
  | _ => none }
def CurveEasesWrongFalsely : Prop := curveEasesRow.holds Try.pinned (OpenSpec.ofChange curveEasesWrong)

/- THE SECOND FORM. 'bulk': how many values and letters a reading holds, each counted each time it is reached (what is shared counts as often as it is met; a slice's spare places count too). A statement '..UptoSaid' is the law's where the arguments, and the package variables that the reading takes, are together of bulk at most 1048576: NARROWER than '..Said'. Prove '..Said' where nothing that the law and all that it calls make is longer than what came in: it says more and counts as full. Else prove '..UptoSaid'. A law counts once. -/
mutual
def uptoBulk {H : Type} : DataW H → Nat
  | .lit (.string bytes) => bytes.length + 1
  | .lit _ => 1
  | .nil => 1
  | .ptr d => uptoBulk d + 1
  | .slice elems spare => uptoBulkAll elems + uptoBulkAll spare + 1
  | .agg parts => uptoBulkAll parts + 1
  | .iface _ d => uptoBulk d + 1
  | .map entries => uptoBulkEntries entries + 1
  | .held _ => 1
def uptoBulkAll {H : Type} : List (DataW H) → Nat
  | [] => 0
  | d :: r => uptoBulk d + uptoBulkAll r
def uptoBulkEntries {H : Type} : List (Lit × DataW H) → Nat
  | [] => 0
  | x :: r => uptoBulkEntry x + uptoBulkEntries r
def uptoBulkEntry {H : Type} : Lit × DataW H → Nat
  | (.string bytes, d) => bytes.length + uptoBulk d + 1
  | (_, d) => uptoBulk d + 1
 end
def uptoSmall : (H : Type) → List (DataW H) → Bool := fun _ ds => decide (uptoBulkAll ds ≤ 1048576)
def OpenSpec.upto (s : _root_.Go.ChangeSpec) : _root_.Go.OpenSpec := { _root_.Go.OpenSpec.ofChange s with cond := some uptoSmall }

/-- 'ceilidhlaw3.CurveAsks', WHERE WHAT IT READS IS OF BULK AT MOST 1048576: true; the input reads as it did. -/
def curveAsksUptoRow : OpenClaim := { program := "ytmkmlkfnodhejaa", sum := "f7725d7817fea193d52ba0f97af7ac5080ea51b5caacaaefcb7a3d2741975524", func := "ceilidh/ceilidhlaw3.CurveAsks", spec := "curveAsks", inPlace := ["math.Float64frombits", "math.Float64bits", "math.archFloor", "math.archTrunc"], apart := false, narrowed := true }
def CurveAsksUptoSaid : Prop := curveAsksUptoRow.holds Try.pinned (OpenSpec.upto curveAsksSpec)

/-- 'ceilidhlaw3.CurveOrder', WHERE WHAT IT READS IS OF BULK AT MOST 1048576: true; the input reads as it did. -/
def curveOrderUptoRow : OpenClaim := { program := "ytmkmlkfnodhejaa", sum := "f7725d7817fea193d52ba0f97af7ac5080ea51b5caacaaefcb7a3d2741975524", func := "ceilidh/ceilidhlaw3.CurveOrder", spec := "curveOrder", inPlace := ["math.Float64bits", "math.Float64frombits", "math.archFloor", "math.archTrunc"], apart := false, narrowed := true }
def CurveOrderUptoSaid : Prop := curveOrderUptoRow.holds Try.pinned (OpenSpec.upto curveOrderSpec)

/-- 'ceilidhlaw3.CurveEnds', WHERE WHAT IT READS IS OF BULK AT MOST 1048576: true; the input reads as it did. -/
def curveEndsUptoRow : OpenClaim := { program := "ytmkmlkfnodhejaa", sum := "f7725d7817fea193d52ba0f97af7ac5080ea51b5caacaaefcb7a3d2741975524", func := "ceilidh/ceilidhlaw3.CurveEnds", spec := "curveEnds", inPlace := ["math.Float64frombits", "math.Float64bits", "math.archFloor", "math.archTrunc"], apart := false, narrowed := true }
def CurveEndsUptoSaid : Prop := curveEndsUptoRow.holds Try.pinned (OpenSpec.upto curveEndsSpec)

/-- 'ceilidhlaw3.CurveUnits', WHERE WHAT IT READS IS OF BULK AT MOST 1048576: true; the input reads as it did. -/
def curveUnitsUptoRow : OpenClaim := { program := "ytmkmlkfnodhejaa", sum := "f7725d7817fea193d52ba0f97af7ac5080ea51b5caacaaefcb7a3d2741975524", func := "ceilidh/ceilidhlaw3.CurveUnits", spec := "curveUnits", inPlace := ["math.Float64bits", "math.Float64frombits", "math.archFloor", "math.archTrunc"], apart := false, narrowed := true }
def CurveUnitsUptoSaid : Prop := curveUnitsUptoRow.holds Try.pinned (OpenSpec.upto curveUnitsSpec)

/-- 'ceilidhlaw3.CurveTurns', WHERE WHAT IT READS IS OF BULK AT MOST 1048576: true; the input reads as it did. -/
def curveTurnsUptoRow : OpenClaim := { program := "ytmkmlkfnodhejaa", sum := "f7725d7817fea193d52ba0f97af7ac5080ea51b5caacaaefcb7a3d2741975524", func := "ceilidh/ceilidhlaw3.CurveTurns", spec := "curveTurns", inPlace := ["math.Float64bits", "math.Float64frombits", "math.archFloor", "math.archTrunc"], apart := false, narrowed := true }
def CurveTurnsUptoSaid : Prop := curveTurnsUptoRow.holds Try.pinned (OpenSpec.upto curveTurnsSpec)

/-- 'ceilidhlaw3.CurveRange', WHERE WHAT IT READS IS OF BULK AT MOST 1048576: true; the input reads as it did. -/
def curveRangeUptoRow : OpenClaim := { program := "ytmkmlkfnodhejaa", sum := "f7725d7817fea193d52ba0f97af7ac5080ea51b5caacaaefcb7a3d2741975524", func := "ceilidh/ceilidhlaw3.CurveRange", spec := "curveRange", inPlace := ["math.Float64bits", "math.Float64frombits", "math.archFloor", "math.archTrunc"], apart := false, narrowed := true }
def CurveRangeUptoSaid : Prop := curveRangeUptoRow.holds Try.pinned (OpenSpec.upto curveRangeSpec)

/-- 'ceilidhlaw3.CurveBetween', WHERE WHAT IT READS IS OF BULK AT MOST 1048576: true; the input reads as it did. -/
def curveBetweenUptoRow : OpenClaim := { program := "ytmkmlkfnodhejaa", sum := "f7725d7817fea193d52ba0f97af7ac5080ea51b5caacaaefcb7a3d2741975524", func := "ceilidh/ceilidhlaw3.CurveBetween", spec := "curveBetween", inPlace := ["math.Float64frombits", "math.Float64bits", "math.archFloor", "math.archTrunc"], apart := false, narrowed := true }
def CurveBetweenUptoSaid : Prop := curveBetweenUptoRow.holds Try.pinned (OpenSpec.upto curveBetweenSpec)

/-- 'ceilidhlaw3.CurveEases', WHERE WHAT IT READS IS OF BULK AT MOST 1048576: true; the input reads as it did. -/
def curveEasesUptoRow : OpenClaim := { program := "ytmkmlkfnodhejaa", sum := "f7725d7817fea193d52ba0f97af7ac5080ea51b5caacaaefcb7a3d2741975524", func := "ceilidh/ceilidhlaw3.CurveEases", spec := "curveEases", inPlace := ["math.Float64frombits", "math.Float64bits", "math.archFloor", "math.archTrunc"], apart := false, narrowed := true }
def CurveEasesUptoSaid : Prop := curveEasesUptoRow.holds Try.pinned (OpenSpec.upto curveEasesSpec)

end Rows
end Go.Proofs.Ytmkmlkfnodhejaa
