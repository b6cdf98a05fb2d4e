/-
  No cell of these rows narrows 'for every input' (looked for: loops, veiled, ifaces, maps, wideKeys, modest, calm, conditions, laid).
  DERIVED. THE GIVEN ROWS OF THIS SEAT. 7 by the template 'for every input the law returns true; each argument reads behind the call as it read before'; 0 by the template 'total and deterministic' (their statements: YtbgliebmdjjmaaaTotals.lean).
  GIVEN WITH THE SEED: the statements are not yours to turn. If you find one false, say at which input.
  Laid BY PROGRAM, IN A SANDBOX (cutbox-rows.mjs): the forced cells as the released guide's own fill.sh prints them over the translation 904305c8a552f507… (all of the seat's roots in one cut). By AI agents, Wed Nov 11 2026. No macro, syntax, notation, axiom, sorry.
-/
import Derived.Test.YtbgliebmdjjmaaaChecked
import GoSem.Claim
import GoSem.ClaimJoined
import GoSem.ClaimMapViews
import Derived.JoinedTies
import Derived.KernelRfl
namespace Go.Proofs.Ytbgliebmdjjmaaa
/- THE CELL 'sum', in the pinned program and in every row, IS THE sha256 OF THE DUMP (.gsa) THAT YtbgliebmdjjmaaaProg.lean LOADS. Nothing in Lean hashes anything: it is a label: what it is worth is what the hold of that sum in a sandbox is worth. -/
noncomputable def Try.pinned : Pinned := { name := "ytbgliebmdjjmaaa", sum := "904305c8a552f507ccb8596e0b1c6f31340ad90e0f50658b3a940f4daabf0891", checked := Try.checked }
namespace Rows
def none {H : Type} : Left H := { results := [], args := [] }

/-- 'ceilidhlaw1.StickBack': WHATEVER THE INPUT: true; the input reads as it did. -/
def stickBackSpec : ChangeSpec := { name := "stickBack", fn := fun _ => fun
  | [d] => { results := [.lit (.bool true)], args := [d] }
  | _ => none }
def stickBackRow : OpenClaim := { program := "ytbgliebmdjjmaaa", sum := "904305c8a552f507ccb8596e0b1c6f31340ad90e0f50658b3a940f4daabf0891", func := "ceilidh/ceilidhlaw1.StickBack", spec := "stickBack", inPlace := ["math.Float64bits", "math.Float64frombits"], unfollowed := true, recurses := true, apart := false }
def StickBackSaid : Prop := stickBackRow.holds Try.pinned (OpenSpec.ofChange stickBackSpec)

/-- ITS FALSE NEIGHBOUR: 'it returns false'. Refute it at one input. -/
def stickBackWrong : ChangeSpec := { name := "stickBack", fn := fun _ => fun
  | [d] => { results := [.lit (.bool false)], args := [d] }
  | _ => none }
def StickBackWrongFalsely : Prop := stickBackRow.holds Try.pinned (OpenSpec.ofChange stickBackWrong)

/-- 'ceilidhlaw1.StickRises': WHATEVER THE INPUT: true; the input reads as it did. -/
def stickRisesSpec : ChangeSpec := { name := "stickRises", fn := fun _ => fun
  | [d1, d2] => { results := [.lit (.bool true)], args := [d1, d2] }
  | _ => none }
def stickRisesRow : OpenClaim := { program := "ytbgliebmdjjmaaa", sum := "904305c8a552f507ccb8596e0b1c6f31340ad90e0f50658b3a940f4daabf0891", func := "ceilidh/ceilidhlaw1.StickRises", spec := "stickRises", inPlace := ["math.Float64bits", "math.Float64frombits"], unfollowed := true, recurses := true, apart := false }
def StickRisesSaid : Prop := stickRisesRow.holds Try.pinned (OpenSpec.ofChange stickRisesSpec)

/-- ITS FALSE NEIGHBOUR: 'it returns false'. Refute it at one input. -/
def stickRisesWrong : ChangeSpec := { name := "stickRises", fn := fun _ => fun
  | [d1, d2] => { results := [.lit (.bool false)], args := [d1, d2] }
  | _ => none }
def StickRisesWrongFalsely : Prop := stickRisesRow.holds Try.pinned (OpenSpec.ofChange stickRisesWrong)

/-- 'ceilidhlaw1.StickEdges': WHATEVER THE INPUT: true; the input reads as it did. -/
def stickEdgesSpec : ChangeSpec := { name := "stickEdges", fn := fun _ => fun
  | [d1, d2] => { results := [.lit (.bool true)], args := [d1, d2] }
  | _ => none }
def stickEdgesRow : OpenClaim := { program := "ytbgliebmdjjmaaa", sum := "904305c8a552f507ccb8596e0b1c6f31340ad90e0f50658b3a940f4daabf0891", func := "ceilidh/ceilidhlaw1.StickEdges", spec := "stickEdges", inPlace := ["math.Float64frombits", "math.Float64bits"], unfollowed := true, recurses := true, apart := false }
def StickEdgesSaid : Prop := stickEdgesRow.holds Try.pinned (OpenSpec.ofChange stickEdgesSpec)

/-- ITS FALSE NEIGHBOUR: 'it returns false'. Refute it at one input. -/
def stickEdgesWrong : ChangeSpec := { name := "stickEdges", fn := fun _ => fun
  | [d1, d2] => { results := [.lit (.bool false)], args := [d1, d2] }
  | _ => none }
def StickEdgesWrongFalsely : Prop := stickEdgesRow.holds Try.pinned (OpenSpec.ofChange stickEdgesWrong)

/-- 'ceilidhlaw1.StickNear': WHATEVER THE INPUT: true; the input reads as it did. -/
def stickNearSpec : ChangeSpec := { name := "stickNear", fn := fun _ => fun
  | [d1, d2] => { results := [.lit (.bool true)], args := [d1, d2] }
  | _ => none }
def stickNearRow : OpenClaim := { program := "ytbgliebmdjjmaaa", sum := "904305c8a552f507ccb8596e0b1c6f31340ad90e0f50658b3a940f4daabf0891", func := "ceilidh/ceilidhlaw1.StickNear", spec := "stickNear", inPlace := ["math.Float64bits", "math.Float64frombits"], unfollowed := true, recurses := true, apart := false }
def StickNearSaid : Prop := stickNearRow.holds Try.pinned (OpenSpec.ofChange stickNearSpec)

/-- ITS FALSE NEIGHBOUR: 'it returns false'. Refute it at one input. -/
def stickNearWrong : ChangeSpec := { name := "stickNear", fn := fun _ => fun
  | [d1, d2] => { results := [.lit (.bool false)], args := [d1, d2] }
  | _ => none }
def StickNearWrongFalsely : Prop := stickNearRow.holds Try.pinned (OpenSpec.ofChange stickNearWrong)

/-- 'ceilidhlaw1.StickSteps': WHATEVER THE INPUT: true; the input reads as it did. -/
def stickStepsSpec : ChangeSpec := { name := "stickSteps", fn := fun _ => fun
  | [d1, d2] => { results := [.lit (.bool true)], args := [d1, d2] }
  | _ => none }
def stickStepsRow : OpenClaim := { program := "ytbgliebmdjjmaaa", sum := "904305c8a552f507ccb8596e0b1c6f31340ad90e0f50658b3a940f4daabf0891", func := "ceilidh/ceilidhlaw1.StickSteps", spec := "stickSteps", inPlace := ["math.Float64bits", "math.Float64frombits"], unfollowed := true, recurses := true, apart := false }
def StickStepsSaid : Prop := stickStepsRow.holds Try.pinned (OpenSpec.ofChange stickStepsSpec)

/-- ITS FALSE NEIGHBOUR: 'it returns false'. Refute it at one input. -/
def stickStepsWrong : ChangeSpec := { name := "stickSteps", fn := fun _ => fun
  | [d1, d2] => { results := [.lit (.bool false)], args := [d1, d2] }
  | _ => none }
def StickStepsWrongFalsely : Prop := stickStepsRow.holds Try.pinned (OpenSpec.ofChange stickStepsWrong)

/-- 'ceilidhlaw1.StickAsks': WHATEVER THE INPUT: true; the input reads as it did. -/
def stickAsksSpec : ChangeSpec := { name := "stickAsks", fn := fun _ => fun
  | [d1, d2, d3, d4, d5] => { results := [.lit (.bool true)], args := [d1, d2, d3, d4, d5] }
  | _ => none }
def stickAsksRow : OpenClaim := { program := "ytbgliebmdjjmaaa", sum := "904305c8a552f507ccb8596e0b1c6f31340ad90e0f50658b3a940f4daabf0891", func := "ceilidh/ceilidhlaw1.StickAsks", spec := "stickAsks", inPlace := ["math.Float64bits", "math.Float64frombits"], unfollowed := true, recurses := true, apart := false }
def StickAsksSaid : Prop := stickAsksRow.holds Try.pinned (OpenSpec.ofChange stickAsksSpec)

/-- ITS FALSE NEIGHBOUR: 'it returns false'. Refute it at one input. -/
def stickAsksWrong : ChangeSpec := { name := "stickAsks", fn := fun _ => fun
  | [d1, d2, d3, d4, d5] => { results := [.lit (.bool false)], args := [d1, d2, d3, d4, d5] }
  | _ => none }
def StickAsksWrongFalsely : Prop := stickAsksRow.holds Try.pinned (OpenSpec.ofChange stickAsksWrong)

/-- 'ceilidhlaw1.StickMay': WHATEVER THE INPUT: true; the input reads as it did. -/
def stickMaySpec : ChangeSpec := { name := "stickMay", fn := fun _ => fun
  | [d1, d2, d3] => { results := [.lit (.bool true)], args := [d1, d2, d3] }
  | _ => none }
def stickMayRow : OpenClaim := { program := "ytbgliebmdjjmaaa", sum := "904305c8a552f507ccb8596e0b1c6f31340ad90e0f50658b3a940f4daabf0891", func := "ceilidh/ceilidhlaw1.StickMay", spec := "stickMay", inPlace := ["math.Float64bits", "math.Float64frombits"], unfollowed := true, recurses := true, apart := false }
def StickMaySaid : Prop := stickMayRow.holds Try.pinned (OpenSpec.ofChange stickMaySpec)

/-- ITS FALSE NEIGHBOUR: 'it returns false'. Refute it at one input. -/
def stickMayWrong : ChangeSpec := { name := "stickMay", fn := fun _ => fun
  | [d1, d2, d3] => { results := [.lit (.bool false)], args := [d1, d2, d3] }
  | _ => none }
def StickMayWrongFalsely : Prop := stickMayRow.holds Try.pinned (OpenSpec.ofChange stickMayWrong)

/- THE SECOND FORM. 'bulk': how many values and letters a reading holds, each counted each time it is reached (what is shared counts as often as it is met; a slice's spare places count too). A statement '..UptoSaid' is the law's where the arguments, and the package variables that the reading takes, are together of bulk at most 1048576: NARROWER than '..Said'. Prove '..Said' where nothing that the law and all that it calls make is longer than what came in: it says more and counts as full. Else prove '..UptoSaid'. A law counts once. -/
mutual
def uptoBulk {H : Type} : DataW H → Nat
  | .lit (.string bytes) => bytes.length + 1
  | .lit _ => 1
  | .nil => 1
  | .ptr d => uptoBulk d + 1
  | .slice elems spare => uptoBulkAll elems + uptoBulkAll spare + 1
  | .agg parts => uptoBulkAll parts + 1
  | .iface _ d => uptoBulk d + 1
  | .map entries => uptoBulkEntries entries + 1
  | .held _ => 1
def uptoBulkAll {H : Type} : List (DataW H) → Nat
  | [] => 0
  | d :: r => uptoBulk d + uptoBulkAll r
def uptoBulkEntries {H : Type} : List (Lit × DataW H) → Nat
  | [] => 0
  | x :: r => uptoBulkEntry x + uptoBulkEntries r
def uptoBulkEntry {H : Type} : Lit × DataW H → Nat
  | (.string bytes, d) => bytes.length + uptoBulk d + 1
  | (_, d) => uptoBulk d + 1
 end
def uptoSmall : (H : Type) → List (DataW H) → Bool := fun _ ds => decide (uptoBulkAll ds ≤ 1048576)
def OpenSpec.upto (s : _root_.Go.ChangeSpec) : _root_.Go.OpenSpec := { _root_.Go.OpenSpec.ofChange s with cond := some uptoSmall }

/-- 'ceilidhlaw1.StickBack', WHERE WHAT IT READS IS OF BULK AT MOST 1048576: true; the input reads as it did. -/
def stickBackUptoRow : OpenClaim := { program := "ytbgliebmdjjmaaa", sum := "904305c8a552f507ccb8596e0b1c6f31340ad90e0f50658b3a940f4daabf0891", func := "ceilidh/ceilidhlaw1.StickBack", spec := "stickBack", inPlace := ["math.Float64bits", "math.Float64frombits"], unfollowed := true, recurses := true, apart := false, narrowed := true }
def StickBackUptoSaid : Prop := stickBackUptoRow.holds Try.pinned (OpenSpec.upto stickBackSpec)

/-- 'ceilidhlaw1.StickRises', WHERE WHAT IT READS IS OF BULK AT MOST 1048576: true; the input reads as it did. -/
def stickRisesUptoRow : OpenClaim := { program := "ytbgliebmdjjmaaa", sum := "904305c8a552f507ccb8596e0b1c6f31340ad90e0f50658b3a940f4daabf0891", func := "ceilidh/ceilidhlaw1.StickRises", spec := "stickRises", inPlace := ["math.Float64bits", "math.Float64frombits"], unfollowed := true, recurses := true, apart := false, narrowed := true }
def StickRisesUptoSaid : Prop := stickRisesUptoRow.holds Try.pinned (OpenSpec.upto stickRisesSpec)

/-- 'ceilidhlaw1.StickEdges', WHERE WHAT IT READS IS OF BULK AT MOST 1048576: true; the input reads as it did. -/
def stickEdgesUptoRow : OpenClaim := { program := "ytbgliebmdjjmaaa", sum := "904305c8a552f507ccb8596e0b1c6f31340ad90e0f50658b3a940f4daabf0891", func := "ceilidh/ceilidhlaw1.StickEdges", spec := "stickEdges", inPlace := ["math.Float64frombits", "math.Float64bits"], unfollowed := true, recurses := true, apart := false, narrowed := true }
def StickEdgesUptoSaid : Prop := stickEdgesUptoRow.holds Try.pinned (OpenSpec.upto stickEdgesSpec)

/-- 'ceilidhlaw1.StickNear', WHERE WHAT IT READS IS OF BULK AT MOST 1048576: true; the input reads as it did. -/
def stickNearUptoRow : OpenClaim := { program := "ytbgliebmdjjmaaa", sum := "904305c8a552f507ccb8596e0b1c6f31340ad90e0f50658b3a940f4daabf0891", func := "ceilidh/ceilidhlaw1.StickNear", spec := "stickNear", inPlace := ["math.Float64bits", "math.Float64frombits"], unfollowed := true, recurses := true, apart := false, narrowed := true }
def StickNearUptoSaid : Prop := stickNearUptoRow.holds Try.pinned (OpenSpec.upto stickNearSpec)

/-- 'ceilidhlaw1.StickSteps', WHERE WHAT IT READS IS OF BULK AT MOST 1048576: true; the input reads as it did. -/
def stickStepsUptoRow : OpenClaim := { program := "ytbgliebmdjjmaaa", sum := "904305c8a552f507ccb8596e0b1c6f31340ad90e0f50658b3a940f4daabf0891", func := "ceilidh/ceilidhlaw1.StickSteps", spec := "stickSteps", inPlace := ["math.Float64bits", "math.Float64frombits"], unfollowed := true, recurses := true, apart := false, narrowed := true }
def StickStepsUptoSaid : Prop := stickStepsUptoRow.holds Try.pinned (OpenSpec.upto stickStepsSpec)

/-- 'ceilidhlaw1.StickAsks', WHERE WHAT IT READS IS OF BULK AT MOST 1048576: true; the input reads as it did. -/
def stickAsksUptoRow : OpenClaim := { program := "ytbgliebmdjjmaaa", sum := "904305c8a552f507ccb8596e0b1c6f31340ad90e0f50658b3a940f4daabf0891", func := "ceilidh/ceilidhlaw1.StickAsks", spec := "stickAsks", inPlace := ["math.Float64bits", "math.Float64frombits"], unfollowed := true, recurses := true, apart := false, narrowed := true }
def StickAsksUptoSaid : Prop := stickAsksUptoRow.holds Try.pinned (OpenSpec.upto stickAsksSpec)

/-- 'ceilidhlaw1.StickMay', WHERE WHAT IT READS IS OF BULK AT MOST 1048576: true; the input reads as it did. -/
def stickMayUptoRow : OpenClaim := { program := "ytbgliebmdjjmaaa", sum := "904305c8a552f507ccb8596e0b1c6f31340ad90e0f50658b3a940f4daabf0891", func := "ceilidh/ceilidhlaw1.StickMay", spec := "stickMay", inPlace := ["math.Float64bits", "math.Float64frombits"], unfollowed := true, recurses := true, apart := false, narrowed := true }
def StickMayUptoSaid : Prop := stickMayUptoRow.holds Try.pinned (OpenSpec.upto stickMaySpec)

end Rows
end Go.Proofs.Ytbgliebmdjjmaaa
