/-
  No cell of these rows narrows 'for every input' (looked for: loops, veiled, ifaces, maps, wideKeys, modest, calm, conditions, laid).
  DERIVED. THE GIVEN ROWS OF THIS SEAT. 8 by the template 'for every input the law returns true; each argument reads behind the call as it read before'; 0 by the template 'total and deterministic' (their statements: YtikmlkfimphjiaaTotals.lean).
  GIVEN WITH THE SEED: the statements are not yours to turn. If you find one false, say at which input.
  Laid BY PROGRAM, IN A SANDBOX (cutbox-rows.mjs): the forced cells as the released guide's own fill.sh prints them over the translation 0418e85dccae9fb1… (all of the seat's roots in one cut). By AI agents, Wed Nov 11 2026. No macro, syntax, notation, axiom, sorry.
-/
import Derived.Test.YtikmlkfimphjiaaChecked
import GoSem.Claim
import GoSem.ClaimJoined
import GoSem.ClaimMapViews
import Derived.JoinedTies
import Derived.KernelRfl
namespace Go.Proofs.Ytikmlkfimphjiaa
/- THE CELL 'sum', in the pinned program and in every row, IS THE sha256 OF THE DUMP (.gsa) THAT YtikmlkfimphjiaaProg.lean LOADS. Nothing in Lean hashes anything: it is a label: what it is worth is what the hold of that sum in a sandbox is worth. -/
noncomputable def Try.pinned : Pinned := { name := "ytikmlkfimphjiaa", sum := "0418e85dccae9fb136d3ee9c1c427bc05361457d47ef6602c1283056afa62249", checked := Try.checked }
namespace Rows
def none {H : Type} : Left H := { results := [], args := [] }

/-- 'ceilidhlaw2.FixAsks': WHATEVER THE INPUT: true; the input reads as it did. -/
def fixAsksSpec : ChangeSpec := { name := "fixAsks", fn := fun _ => fun
  | [d1, d2, d3, d4] => { results := [.lit (.bool true)], args := [d1, d2, d3, d4] }
  | _ => none }
def fixAsksRow : OpenClaim := { program := "ytikmlkfimphjiaa", sum := "0418e85dccae9fb136d3ee9c1c427bc05361457d47ef6602c1283056afa62249", func := "ceilidh/ceilidhlaw2.FixAsks", spec := "fixAsks", inPlace := ["math.Float64bits", "math.Float64frombits"], unfollowed := true, recurses := true, apart := false }
def FixAsksSaid : Prop := fixAsksRow.holds Try.pinned (OpenSpec.ofChange fixAsksSpec)

/-- ITS FALSE NEIGHBOUR: 'it returns false'. Refute it at one input. -/
def fixAsksWrong : ChangeSpec := { name := "fixAsks", fn := fun _ => fun
  | [d1, d2, d3, d4] => { results := [.lit (.bool false)], args := [d1, d2, d3, d4] }
  | _ => none }
def FixAsksWrongFalsely : Prop := fixAsksRow.holds Try.pinned (OpenSpec.ofChange fixAsksWrong)

/-- 'ceilidhlaw2.FixBack': WHATEVER THE INPUT: true; the input reads as it did. -/
def fixBackSpec : ChangeSpec := { name := "fixBack", fn := fun _ => fun
  | [d1, d2] => { results := [.lit (.bool true)], args := [d1, d2] }
  | _ => none }
def fixBackRow : OpenClaim := { program := "ytikmlkfimphjiaa", sum := "0418e85dccae9fb136d3ee9c1c427bc05361457d47ef6602c1283056afa62249", func := "ceilidh/ceilidhlaw2.FixBack", spec := "fixBack", inPlace := ["math.Float64bits", "math.Float64frombits"], unfollowed := true, recurses := true, apart := false }
def FixBackSaid : Prop := fixBackRow.holds Try.pinned (OpenSpec.ofChange fixBackSpec)

/-- ITS FALSE NEIGHBOUR: 'it returns false'. Refute it at one input. -/
def fixBackWrong : ChangeSpec := { name := "fixBack", fn := fun _ => fun
  | [d1, d2] => { results := [.lit (.bool false)], args := [d1, d2] }
  | _ => none }
def FixBackWrongFalsely : Prop := fixBackRow.holds Try.pinned (OpenSpec.ofChange fixBackWrong)

/-- 'ceilidhlaw2.FixRing': WHATEVER THE INPUT: true; the input reads as it did. -/
def fixRingSpec : ChangeSpec := { name := "fixRing", fn := fun _ => fun
  | [d1, d2] => { results := [.lit (.bool true)], args := [d1, d2] }
  | _ => none }
def fixRingRow : OpenClaim := { program := "ytikmlkfimphjiaa", sum := "0418e85dccae9fb136d3ee9c1c427bc05361457d47ef6602c1283056afa62249", func := "ceilidh/ceilidhlaw2.FixRing", spec := "fixRing", inPlace := ["math.Float64bits", "math.Float64frombits"], unfollowed := true, recurses := true, apart := false }
def FixRingSaid : Prop := fixRingRow.holds Try.pinned (OpenSpec.ofChange fixRingSpec)

/-- ITS FALSE NEIGHBOUR: 'it returns false'. Refute it at one input. -/
def fixRingWrong : ChangeSpec := { name := "fixRing", fn := fun _ => fun
  | [d1, d2] => { results := [.lit (.bool false)], args := [d1, d2] }
  | _ => none }
def FixRingWrongFalsely : Prop := fixRingRow.holds Try.pinned (OpenSpec.ofChange fixRingWrong)

/-- 'ceilidhlaw2.FixParts': WHATEVER THE INPUT: true; the input reads as it did. -/
def fixPartsSpec : ChangeSpec := { name := "fixParts", fn := fun _ => fun
  | [d1, d2] => { results := [.lit (.bool true)], args := [d1, d2] }
  | _ => none }
def fixPartsRow : OpenClaim := { program := "ytikmlkfimphjiaa", sum := "0418e85dccae9fb136d3ee9c1c427bc05361457d47ef6602c1283056afa62249", func := "ceilidh/ceilidhlaw2.FixParts", spec := "fixParts", inPlace := ["math.Float64bits", "math.Float64frombits"], unfollowed := true, recurses := true, apart := false }
def FixPartsSaid : Prop := fixPartsRow.holds Try.pinned (OpenSpec.ofChange fixPartsSpec)

/-- ITS FALSE NEIGHBOUR: 'it returns false'. Refute it at one input. -/
def fixPartsWrong : ChangeSpec := { name := "fixParts", fn := fun _ => fun
  | [d1, d2] => { results := [.lit (.bool false)], args := [d1, d2] }
  | _ => none }
def FixPartsWrongFalsely : Prop := fixPartsRow.holds Try.pinned (OpenSpec.ofChange fixPartsWrong)

/-- 'ceilidhlaw2.FixClamps': WHATEVER THE INPUT: true; the input reads as it did. -/
def fixClampsSpec : ChangeSpec := { name := "fixClamps", fn := fun _ => fun
  | [d1, d2, d3] => { results := [.lit (.bool true)], args := [d1, d2, d3] }
  | _ => none }
def fixClampsRow : OpenClaim := { program := "ytikmlkfimphjiaa", sum := "0418e85dccae9fb136d3ee9c1c427bc05361457d47ef6602c1283056afa62249", func := "ceilidh/ceilidhlaw2.FixClamps", spec := "fixClamps", inPlace := ["math.Float64bits", "math.Float64frombits"], unfollowed := true, recurses := true, apart := false }
def FixClampsSaid : Prop := fixClampsRow.holds Try.pinned (OpenSpec.ofChange fixClampsSpec)

/-- ITS FALSE NEIGHBOUR: 'it returns false'. Refute it at one input. -/
def fixClampsWrong : ChangeSpec := { name := "fixClamps", fn := fun _ => fun
  | [d1, d2, d3] => { results := [.lit (.bool false)], args := [d1, d2, d3] }
  | _ => none }
def FixClampsWrongFalsely : Prop := fixClampsRow.holds Try.pinned (OpenSpec.ofChange fixClampsWrong)

/-- 'ceilidhlaw2.FixEdges': WHATEVER THE INPUT: true; the input reads as it did. -/
def fixEdgesSpec : ChangeSpec := { name := "fixEdges", fn := fun _ => fun
  | [d1, d2] => { results := [.lit (.bool true)], args := [d1, d2] }
  | _ => none }
def fixEdgesRow : OpenClaim := { program := "ytikmlkfimphjiaa", sum := "0418e85dccae9fb136d3ee9c1c427bc05361457d47ef6602c1283056afa62249", func := "ceilidh/ceilidhlaw2.FixEdges", spec := "fixEdges", inPlace := ["math.Float64frombits", "math.Float64bits"], unfollowed := true, recurses := true, apart := false }
def FixEdgesSaid : Prop := fixEdgesRow.holds Try.pinned (OpenSpec.ofChange fixEdgesSpec)

/-- ITS FALSE NEIGHBOUR: 'it returns false'. Refute it at one input. -/
def fixEdgesWrong : ChangeSpec := { name := "fixEdges", fn := fun _ => fun
  | [d1, d2] => { results := [.lit (.bool false)], args := [d1, d2] }
  | _ => none }
def FixEdgesWrongFalsely : Prop := fixEdgesRow.holds Try.pinned (OpenSpec.ofChange fixEdgesWrong)

/-- 'ceilidhlaw2.FixMixes': WHATEVER THE INPUT: true; the input reads as it did. -/
def fixMixesSpec : ChangeSpec := { name := "fixMixes", fn := fun _ => fun
  | [d1, d2] => { results := [.lit (.bool true)], args := [d1, d2] }
  | _ => none }
def fixMixesRow : OpenClaim := { program := "ytikmlkfimphjiaa", sum := "0418e85dccae9fb136d3ee9c1c427bc05361457d47ef6602c1283056afa62249", func := "ceilidh/ceilidhlaw2.FixMixes", spec := "fixMixes", inPlace := ["math.Float64bits", "math.Float64frombits"], unfollowed := true, recurses := true, apart := false }
def FixMixesSaid : Prop := fixMixesRow.holds Try.pinned (OpenSpec.ofChange fixMixesSpec)

/-- ITS FALSE NEIGHBOUR: 'it returns false'. Refute it at one input. -/
def fixMixesWrong : ChangeSpec := { name := "fixMixes", fn := fun _ => fun
  | [d1, d2] => { results := [.lit (.bool false)], args := [d1, d2] }
  | _ => none }
def FixMixesWrongFalsely : Prop := fixMixesRow.holds Try.pinned (OpenSpec.ofChange fixMixesWrong)

/-- 'ceilidhlaw2.FixOrder': WHATEVER THE INPUT: true; the input reads as it did. -/
def fixOrderSpec : ChangeSpec := { name := "fixOrder", fn := fun _ => fun
  | [d1, d2, d3] => { results := [.lit (.bool true)], args := [d1, d2, d3] }
  | _ => none }
def fixOrderRow : OpenClaim := { program := "ytikmlkfimphjiaa", sum := "0418e85dccae9fb136d3ee9c1c427bc05361457d47ef6602c1283056afa62249", func := "ceilidh/ceilidhlaw2.FixOrder", spec := "fixOrder", inPlace := ["math.Float64bits", "math.Float64frombits"], unfollowed := true, recurses := true, apart := false }
def FixOrderSaid : Prop := fixOrderRow.holds Try.pinned (OpenSpec.ofChange fixOrderSpec)

/-- ITS FALSE NEIGHBOUR: 'it returns false'. Refute it at one input. -/
def fixOrderWrong : ChangeSpec := { name := "fixOrder", fn := fun _ => fun
  | [d1, d2, d3] => { results := [.lit (.bool false)], args := [d1, d2, d3] }
  | _ => none }
def FixOrderWrongFalsely : Prop := fixOrderRow.holds Try.pinned (OpenSpec.ofChange fixOrderWrong)

/- THE SECOND FORM. 'bulk': how many values and letters a reading holds, each counted each time it is reached (what is shared counts as often as it is met; a slice's spare places count too). A statement '..UptoSaid' is the law's where the arguments, and the package variables that the reading takes, are together of bulk at most 1048576: NARROWER than '..Said'. Prove '..Said' where nothing that the law and all that it calls make is longer than what came in: it says more and counts as full. Else prove '..UptoSaid'. A law counts once. -/
mutual
def uptoBulk {H : Type} : DataW H → Nat
  | .lit (.string bytes) => bytes.length + 1
  | .lit _ => 1
  | .nil => 1
  | .ptr d => uptoBulk d + 1
  | .slice elems spare => uptoBulkAll elems + uptoBulkAll spare + 1
  | .agg parts => uptoBulkAll parts + 1
  | .iface _ d => uptoBulk d + 1
  | .map entries => uptoBulkEntries entries + 1
  | .held _ => 1
def uptoBulkAll {H : Type} : List (DataW H) → Nat
  | [] => 0
  | d :: r => uptoBulk d + uptoBulkAll r
def uptoBulkEntries {H : Type} : List (Lit × DataW H) → Nat
  | [] => 0
  | x :: r => uptoBulkEntry x + uptoBulkEntries r
def uptoBulkEntry {H : Type} : Lit × DataW H → Nat
  | (.string bytes, d) => bytes.length + uptoBulk d + 1
  | (_, d) => uptoBulk d + 1
 end
def uptoSmall : (H : Type) → List (DataW H) → Bool := fun _ ds => decide (uptoBulkAll ds ≤ 1048576)
def OpenSpec.upto (s : _root_.Go.ChangeSpec) : _root_.Go.OpenSpec := { _root_.Go.OpenSpec.ofChange s with cond := some uptoSmall }

/-- 'ceilidhlaw2.FixAsks', WHERE WHAT IT READS IS OF BULK AT MOST 1048576: true; the input reads as it did. -/
def fixAsksUptoRow : OpenClaim := { program := "ytikmlkfimphjiaa", sum := "0418e85dccae9fb136d3ee9c1c427bc05361457d47ef6602c1283056afa62249", func := "ceilidh/ceilidhlaw2.FixAsks", spec := "fixAsks", inPlace := ["math.Float64bits", "math.Float64frombits"], unfollowed := true, recurses := true, apart := false, narrowed := true }
def FixAsksUptoSaid : Prop := fixAsksUptoRow.holds Try.pinned (OpenSpec.upto fixAsksSpec)

/-- 'ceilidhlaw2.FixBack', WHERE WHAT IT READS IS OF BULK AT MOST 1048576: true; the input reads as it did. -/
def fixBackUptoRow : OpenClaim := { program := "ytikmlkfimphjiaa", sum := "0418e85dccae9fb136d3ee9c1c427bc05361457d47ef6602c1283056afa62249", func := "ceilidh/ceilidhlaw2.FixBack", spec := "fixBack", inPlace := ["math.Float64bits", "math.Float64frombits"], unfollowed := true, recurses := true, apart := false, narrowed := true }
def FixBackUptoSaid : Prop := fixBackUptoRow.holds Try.pinned (OpenSpec.upto fixBackSpec)

/-- 'ceilidhlaw2.FixRing', WHERE WHAT IT READS IS OF BULK AT MOST 1048576: true; the input reads as it did. -/
def fixRingUptoRow : OpenClaim := { program := "ytikmlkfimphjiaa", sum := "0418e85dccae9fb136d3ee9c1c427bc05361457d47ef6602c1283056afa62249", func := "ceilidh/ceilidhlaw2.FixRing", spec := "fixRing", inPlace := ["math.Float64bits", "math.Float64frombits"], unfollowed := true, recurses := true, apart := false, narrowed := true }
def FixRingUptoSaid : Prop := fixRingUptoRow.holds Try.pinned (OpenSpec.upto fixRingSpec)

/-- 'ceilidhlaw2.FixParts', WHERE WHAT IT READS IS OF BULK AT MOST 1048576: true; the input reads as it did. -/
def fixPartsUptoRow : OpenClaim := { program := "ytikmlkfimphjiaa", sum := "0418e85dccae9fb136d3ee9c1c427bc05361457d47ef6602c1283056afa62249", func := "ceilidh/ceilidhlaw2.FixParts", spec := "fixParts", inPlace := ["math.Float64bits", "math.Float64frombits"], unfollowed := true, recurses := true, apart := false, narrowed := true }
def FixPartsUptoSaid : Prop := fixPartsUptoRow.holds Try.pinned (OpenSpec.upto fixPartsSpec)

/-- 'ceilidhlaw2.FixClamps', WHERE WHAT IT READS IS OF BULK AT MOST 1048576: true; the input reads as it did. -/
def fixClampsUptoRow : OpenClaim := { program := "ytikmlkfimphjiaa", sum := "0418e85dccae9fb136d3ee9c1c427bc05361457d47ef6602c1283056afa62249", func := "ceilidh/ceilidhlaw2.FixClamps", spec := "fixClamps", inPlace := ["math.Float64bits", "math.Float64frombits"], unfollowed := true, recurses := true, apart := false, narrowed := true }
def FixClampsUptoSaid : Prop := fixClampsUptoRow.holds Try.pinned (OpenSpec.upto fixClampsSpec)

/-- 'ceilidhlaw2.FixEdges', WHERE WHAT IT READS IS OF BULK AT MOST 1048576: true; the input reads as it did. -/
def fixEdgesUptoRow : OpenClaim := { program := "ytikmlkfimphjiaa", sum := "0418e85dccae9fb136d3ee9c1c427bc05361457d47ef6602c1283056afa62249", func := "ceilidh/ceilidhlaw2.FixEdges", spec := "fixEdges", inPlace := ["math.Float64frombits", "math.Float64bits"], unfollowed := true, recurses := true, apart := false, narrowed := true }
def FixEdgesUptoSaid : Prop := fixEdgesUptoRow.holds Try.pinned (OpenSpec.upto fixEdgesSpec)

/-- 'ceilidhlaw2.FixMixes', WHERE WHAT IT READS IS OF BULK AT MOST 1048576: true; the input reads as it did. -/
def fixMixesUptoRow : OpenClaim := { program := "ytikmlkfimphjiaa", sum := "0418e85dccae9fb136d3ee9c1c427bc05361457d47ef6602c1283056afa62249", func := "ceilidh/ceilidhlaw2.FixMixes", spec := "fixMixes", inPlace := ["math.Float64bits", "math.Float64frombits"], unfollowed := true, recurses := true, apart := false, narrowed := true }
def FixMixesUptoSaid : Prop := fixMixesUptoRow.holds Try.pinned (OpenSpec.upto fixMixesSpec)

/-- 'ceilidhlaw2.FixOrder', WHERE WHAT IT READS IS OF BULK AT MOST 1048576: true; the input reads as it did. -/
def fixOrderUptoRow : OpenClaim := { program := "ytikmlkfimphjiaa", sum := "0418e85dccae9fb136d3ee9c1c427bc05361457d47ef6602c1283056afa62249", func := "ceilidh/ceilidhlaw2.FixOrder", spec := "fixOrder", inPlace := ["math.Float64bits", "math.Float64frombits"], unfollowed := true, recurses := true, apart := false, narrowed := true }
def FixOrderUptoSaid : Prop := fixOrderUptoRow.holds Try.pinned (OpenSpec.upto fixOrderSpec)

end Rows
end Go.Proofs.Ytikmlkfimphjiaa
