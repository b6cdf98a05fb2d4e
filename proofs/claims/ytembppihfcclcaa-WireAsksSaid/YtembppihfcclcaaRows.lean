/-
  No cell of these rows narrows 'for every input' (looked for: loops, veiled, ifaces, maps, wideKeys, modest, calm, conditions, laid).
  DERIVED. THE GIVEN ROWS OF THIS SEAT. 8 by the template 'for every input the law returns true; each argument reads behind the call as it read before'; 0 by the template 'total and deterministic' (their statements: YtembppihfcclcaaTotals.lean).
  GIVEN WITH THE SEED: the statements are not yours to turn. If you find one false, say at which input.
  Laid BY PROGRAM, IN A SANDBOX (cutbox-rows.mjs): the forced cells as the released guide's own fill.sh prints them over the translation 7ab08d9e727ea64b… (all of the seat's roots in one cut). By AI agents, Wed Nov 11 2026. No macro, syntax, notation, axiom, sorry.
-/
import Derived.Test.YtembppihfcclcaaChecked
import GoSem.Claim
import GoSem.ClaimJoined
import GoSem.ClaimMapViews
import Derived.JoinedTies
import Derived.KernelRfl
namespace Go.Proofs.Ytembppihfcclcaa
/- THE CELL 'sum', in the pinned program and in every row, IS THE sha256 OF THE DUMP (.gsa) THAT YtembppihfcclcaaProg.lean LOADS. Nothing in Lean hashes anything: it is a label: what it is worth is what the hold of that sum in a sandbox is worth. -/
noncomputable def Try.pinned : Pinned := { name := "ytembppihfcclcaa", sum := "7ab08d9e727ea64be8e85b61315a68781b25e7e66fb8b1a795b57805230f5f5b", checked := Try.checked }
namespace Rows
def none {H : Type} : Left H := { results := [], args := [] }

/-- 'ceilidhlaw12.WireLogs': WHATEVER THE INPUT: true; the input reads as it did. -/
def wireLogsSpec : ChangeSpec := { name := "wireLogs", fn := fun _ => fun
  | [d1, d2, d3] => { results := [.lit (.bool true)], args := [d1, d2, d3] }
  | _ => none }
def wireLogsRow : OpenClaim := { program := "ytembppihfcclcaa", sum := "7ab08d9e727ea64be8e85b61315a68781b25e7e66fb8b1a795b57805230f5f5b", func := "ceilidh/ceilidhlaw12.WireLogs", spec := "wireLogs", unfollowed := true, recurses := true, apart := false }
def WireLogsSaid : Prop := wireLogsRow.holds Try.pinned (OpenSpec.ofChange wireLogsSpec)

/-- ITS FALSE NEIGHBOUR: 'it returns false'. Refute it at one input. -/
def wireLogsWrong : ChangeSpec := { name := "wireLogs", fn := fun _ => fun
  | [d1, d2, d3] => { results := [.lit (.bool false)], args := [d1, d2, d3] }
  | _ => none }
def WireLogsWrongFalsely : Prop := wireLogsRow.holds Try.pinned (OpenSpec.ofChange wireLogsWrong)

/-- 'ceilidhlaw12.WireFull': WHATEVER THE INPUT: true; the input reads as it did. -/
def wireFullSpec : ChangeSpec := { name := "wireFull", fn := fun _ => fun
  | [d] => { results := [.lit (.bool true)], args := [d] }
  | _ => none }
def wireFullRow : OpenClaim := { program := "ytembppihfcclcaa", sum := "7ab08d9e727ea64be8e85b61315a68781b25e7e66fb8b1a795b57805230f5f5b", func := "ceilidh/ceilidhlaw12.WireFull", spec := "wireFull", unfollowed := true, recurses := true, apart := false }
def WireFullSaid : Prop := wireFullRow.holds Try.pinned (OpenSpec.ofChange wireFullSpec)

/-- ITS FALSE NEIGHBOUR: 'it returns false'. Refute it at one input. -/
def wireFullWrong : ChangeSpec := { name := "wireFull", fn := fun _ => fun
  | [d] => { results := [.lit (.bool false)], args := [d] }
  | _ => none }
def WireFullWrongFalsely : Prop := wireFullRow.holds Try.pinned (OpenSpec.ofChange wireFullWrong)

/-- 'ceilidhlaw12.WireAsks': WHATEVER THE INPUT: true; the input reads as it did. -/
def wireAsksSpec : ChangeSpec := { name := "wireAsks", fn := fun _ => fun
  | [d1, d2, d3, d4] => { results := [.lit (.bool true)], args := [d1, d2, d3, d4] }
  | _ => none }
def wireAsksRow : OpenClaim := { program := "ytembppihfcclcaa", sum := "7ab08d9e727ea64be8e85b61315a68781b25e7e66fb8b1a795b57805230f5f5b", func := "ceilidh/ceilidhlaw12.WireAsks", spec := "wireAsks", unfollowed := true, recurses := true, apart := false }
def WireAsksSaid : Prop := wireAsksRow.holds Try.pinned (OpenSpec.ofChange wireAsksSpec)

/-- ITS FALSE NEIGHBOUR: 'it returns false'. Refute it at one input. -/
def wireAsksWrong : ChangeSpec := { name := "wireAsks", fn := fun _ => fun
  | [d1, d2, d3, d4] => { results := [.lit (.bool false)], args := [d1, d2, d3, d4] }
  | _ => none }
def WireAsksWrongFalsely : Prop := wireAsksRow.holds Try.pinned (OpenSpec.ofChange wireAsksWrong)

/-- 'ceilidhlaw12.WireBack': WHATEVER THE INPUT: true; the input reads as it did. -/
def wireBackSpec : ChangeSpec := { name := "wireBack", fn := fun _ => fun
  | [d] => { results := [.lit (.bool true)], args := [d] }
  | _ => none }
def wireBackRow : OpenClaim := { program := "ytembppihfcclcaa", sum := "7ab08d9e727ea64be8e85b61315a68781b25e7e66fb8b1a795b57805230f5f5b", func := "ceilidh/ceilidhlaw12.WireBack", spec := "wireBack", unfollowed := true, recurses := true, apart := false }
def WireBackSaid : Prop := wireBackRow.holds Try.pinned (OpenSpec.ofChange wireBackSpec)

/-- ITS FALSE NEIGHBOUR: 'it returns false'. Refute it at one input. -/
def wireBackWrong : ChangeSpec := { name := "wireBack", fn := fun _ => fun
  | [d] => { results := [.lit (.bool false)], args := [d] }
  | _ => none }
def WireBackWrongFalsely : Prop := wireBackRow.holds Try.pinned (OpenSpec.ofChange wireBackWrong)

/-- 'ceilidhlaw12.WireSpoilt': WHATEVER THE INPUT: true; the input reads as it did. -/
def wireSpoiltSpec : ChangeSpec := { name := "wireSpoilt", fn := fun _ => fun
  | [d1, d2, d3] => { results := [.lit (.bool true)], args := [d1, d2, d3] }
  | _ => none }
def wireSpoiltRow : OpenClaim := { program := "ytembppihfcclcaa", sum := "7ab08d9e727ea64be8e85b61315a68781b25e7e66fb8b1a795b57805230f5f5b", func := "ceilidh/ceilidhlaw12.WireSpoilt", spec := "wireSpoilt", unfollowed := true, recurses := true, apart := false }
def WireSpoiltSaid : Prop := wireSpoiltRow.holds Try.pinned (OpenSpec.ofChange wireSpoiltSpec)

/-- ITS FALSE NEIGHBOUR: 'it returns false'. Refute it at one input. -/
def wireSpoiltWrong : ChangeSpec := { name := "wireSpoilt", fn := fun _ => fun
  | [d1, d2, d3] => { results := [.lit (.bool false)], args := [d1, d2, d3] }
  | _ => none }
def WireSpoiltWrongFalsely : Prop := wireSpoiltRow.holds Try.pinned (OpenSpec.ofChange wireSpoiltWrong)

/-- 'ceilidhlaw12.WireBurst': WHATEVER THE INPUT: true; the input reads as it did. -/
def wireBurstSpec : ChangeSpec := { name := "wireBurst", fn := fun _ => fun
  | [d1, d2, d3] => { results := [.lit (.bool true)], args := [d1, d2, d3] }
  | _ => none }
def wireBurstRow : OpenClaim := { program := "ytembppihfcclcaa", sum := "7ab08d9e727ea64be8e85b61315a68781b25e7e66fb8b1a795b57805230f5f5b", func := "ceilidh/ceilidhlaw12.WireBurst", spec := "wireBurst", unfollowed := true, recurses := true, apart := false }
def WireBurstSaid : Prop := wireBurstRow.holds Try.pinned (OpenSpec.ofChange wireBurstSpec)

/-- ITS FALSE NEIGHBOUR: 'it returns false'. Refute it at one input. -/
def wireBurstWrong : ChangeSpec := { name := "wireBurst", fn := fun _ => fun
  | [d1, d2, d3] => { results := [.lit (.bool false)], args := [d1, d2, d3] }
  | _ => none }
def WireBurstWrongFalsely : Prop := wireBurstRow.holds Try.pinned (OpenSpec.ofChange wireBurstWrong)

/-- 'ceilidhlaw12.WireKinds': WHATEVER THE INPUT: true; the input reads as it did. -/
def wireKindsSpec : ChangeSpec := { name := "wireKinds", fn := fun _ => fun
  | [d1, d2] => { results := [.lit (.bool true)], args := [d1, d2] }
  | _ => none }
def wireKindsRow : OpenClaim := { program := "ytembppihfcclcaa", sum := "7ab08d9e727ea64be8e85b61315a68781b25e7e66fb8b1a795b57805230f5f5b", func := "ceilidh/ceilidhlaw12.WireKinds", spec := "wireKinds", unfollowed := true, recurses := true, apart := false }
def WireKindsSaid : Prop := wireKindsRow.holds Try.pinned (OpenSpec.ofChange wireKindsSpec)

/-- ITS FALSE NEIGHBOUR: 'it returns false'. Refute it at one input. -/
def wireKindsWrong : ChangeSpec := { name := "wireKinds", fn := fun _ => fun
  | [d1, d2] => { results := [.lit (.bool false)], args := [d1, d2] }
  | _ => none }
def WireKindsWrongFalsely : Prop := wireKindsRow.holds Try.pinned (OpenSpec.ofChange wireKindsWrong)

/-- 'ceilidhlaw12.WireBounds': WHATEVER THE INPUT: true; the input reads as it did. -/
def wireBoundsSpec : ChangeSpec := { name := "wireBounds", fn := fun _ => fun
  | [d1, d2] => { results := [.lit (.bool true)], args := [d1, d2] }
  | _ => none }
def wireBoundsRow : OpenClaim := { program := "ytembppihfcclcaa", sum := "7ab08d9e727ea64be8e85b61315a68781b25e7e66fb8b1a795b57805230f5f5b", func := "ceilidh/ceilidhlaw12.WireBounds", spec := "wireBounds", unfollowed := true, recurses := true, apart := false }
def WireBoundsSaid : Prop := wireBoundsRow.holds Try.pinned (OpenSpec.ofChange wireBoundsSpec)

/-- ITS FALSE NEIGHBOUR: 'it returns false'. Refute it at one input. -/
def wireBoundsWrong : ChangeSpec := { name := "wireBounds", fn := fun _ => fun
  | [d1, d2] => { results := [.lit (.bool false)], args := [d1, d2] }
  | _ => none }
def WireBoundsWrongFalsely : Prop := wireBoundsRow.holds Try.pinned (OpenSpec.ofChange wireBoundsWrong)

/- THE SECOND FORM. 'bulk': how many values and letters a reading holds, each counted each time it is reached (what is shared counts as often as it is met; a slice's spare places count too). A statement '..UptoSaid' is the law's where the arguments, and the package variables that the reading takes, are together of bulk at most 1048576: NARROWER than '..Said'. Prove '..Said' where nothing that the law and all that it calls make is longer than what came in: it says more and counts as full. Else prove '..UptoSaid'. A law counts once. -/
mutual
def uptoBulk {H : Type} : DataW H → Nat
  | .lit (.string bytes) => bytes.length + 1
  | .lit _ => 1
  | .nil => 1
  | .ptr d => uptoBulk d + 1
  | .slice elems spare => uptoBulkAll elems + uptoBulkAll spare + 1
  | .agg parts => uptoBulkAll parts + 1
  | .iface _ d => uptoBulk d + 1
  | .map entries => uptoBulkEntries entries + 1
  | .held _ => 1
def uptoBulkAll {H : Type} : List (DataW H) → Nat
  | [] => 0
  | d :: r => uptoBulk d + uptoBulkAll r
def uptoBulkEntries {H : Type} : List (Lit × DataW H) → Nat
  | [] => 0
  | x :: r => uptoBulkEntry x + uptoBulkEntries r
def uptoBulkEntry {H : Type} : Lit × DataW H → Nat
  | (.string bytes, d) => bytes.length + uptoBulk d + 1
  | (_, d) => uptoBulk d + 1
 end
def uptoSmall : (H : Type) → List (DataW H) → Bool := fun _ ds => decide (uptoBulkAll ds ≤ 1048576)
def OpenSpec.upto (s : _root_.Go.ChangeSpec) : _root_.Go.OpenSpec := { _root_.Go.OpenSpec.ofChange s with cond := some uptoSmall }

/-- 'ceilidhlaw12.WireLogs', WHERE WHAT IT READS IS OF BULK AT MOST 1048576: true; the input reads as it did. -/
def wireLogsUptoRow : OpenClaim := { program := "ytembppihfcclcaa", sum := "7ab08d9e727ea64be8e85b61315a68781b25e7e66fb8b1a795b57805230f5f5b", func := "ceilidh/ceilidhlaw12.WireLogs", spec := "wireLogs", unfollowed := true, recurses := true, apart := false, narrowed := true }
def WireLogsUptoSaid : Prop := wireLogsUptoRow.holds Try.pinned (OpenSpec.upto wireLogsSpec)

/-- 'ceilidhlaw12.WireFull', WHERE WHAT IT READS IS OF BULK AT MOST 1048576: true; the input reads as it did. -/
def wireFullUptoRow : OpenClaim := { program := "ytembppihfcclcaa", sum := "7ab08d9e727ea64be8e85b61315a68781b25e7e66fb8b1a795b57805230f5f5b", func := "ceilidh/ceilidhlaw12.WireFull", spec := "wireFull", unfollowed := true, recurses := true, apart := false, narrowed := true }
def WireFullUptoSaid : Prop := wireFullUptoRow.holds Try.pinned (OpenSpec.upto wireFullSpec)

/-- 'ceilidhlaw12.WireAsks', WHERE WHAT IT READS IS OF BULK AT MOST 1048576: true; the input reads as it did. -/
def wireAsksUptoRow : OpenClaim := { program := "ytembppihfcclcaa", sum := "7ab08d9e727ea64be8e85b61315a68781b25e7e66fb8b1a795b57805230f5f5b", func := "ceilidh/ceilidhlaw12.WireAsks", spec := "wireAsks", unfollowed := true, recurses := true, apart := false, narrowed := true }
def WireAsksUptoSaid : Prop := wireAsksUptoRow.holds Try.pinned (OpenSpec.upto wireAsksSpec)

/-- 'ceilidhlaw12.WireBack', WHERE WHAT IT READS IS OF BULK AT MOST 1048576: true; the input reads as it did. -/
def wireBackUptoRow : OpenClaim := { program := "ytembppihfcclcaa", sum := "7ab08d9e727ea64be8e85b61315a68781b25e7e66fb8b1a795b57805230f5f5b", func := "ceilidh/ceilidhlaw12.WireBack", spec := "wireBack", unfollowed := true, recurses := true, apart := false, narrowed := true }
def WireBackUptoSaid : Prop := wireBackUptoRow.holds Try.pinned (OpenSpec.upto wireBackSpec)

/-- 'ceilidhlaw12.WireSpoilt', WHERE WHAT IT READS IS OF BULK AT MOST 1048576: true; the input reads as it did. -/
def wireSpoiltUptoRow : OpenClaim := { program := "ytembppihfcclcaa", sum := "7ab08d9e727ea64be8e85b61315a68781b25e7e66fb8b1a795b57805230f5f5b", func := "ceilidh/ceilidhlaw12.WireSpoilt", spec := "wireSpoilt", unfollowed := true, recurses := true, apart := false, narrowed := true }
def WireSpoiltUptoSaid : Prop := wireSpoiltUptoRow.holds Try.pinned (OpenSpec.upto wireSpoiltSpec)

/-- 'ceilidhlaw12.WireBurst', WHERE WHAT IT READS IS OF BULK AT MOST 1048576: true; the input reads as it did. -/
def wireBurstUptoRow : OpenClaim := { program := "ytembppihfcclcaa", sum := "7ab08d9e727ea64be8e85b61315a68781b25e7e66fb8b1a795b57805230f5f5b", func := "ceilidh/ceilidhlaw12.WireBurst", spec := "wireBurst", unfollowed := true, recurses := true, apart := false, narrowed := true }
def WireBurstUptoSaid : Prop := wireBurstUptoRow.holds Try.pinned (OpenSpec.upto wireBurstSpec)

/-- 'ceilidhlaw12.WireKinds', WHERE WHAT IT READS IS OF BULK AT MOST 1048576: true; the input reads as it did. -/
def wireKindsUptoRow : OpenClaim := { program := "ytembppihfcclcaa", sum := "7ab08d9e727ea64be8e85b61315a68781b25e7e66fb8b1a795b57805230f5f5b", func := "ceilidh/ceilidhlaw12.WireKinds", spec := "wireKinds", unfollowed := true, recurses := true, apart := false, narrowed := true }
def WireKindsUptoSaid : Prop := wireKindsUptoRow.holds Try.pinned (OpenSpec.upto wireKindsSpec)

/-- 'ceilidhlaw12.WireBounds', WHERE WHAT IT READS IS OF BULK AT MOST 1048576: true; the input reads as it did. -/
def wireBoundsUptoRow : OpenClaim := { program := "ytembppihfcclcaa", sum := "7ab08d9e727ea64be8e85b61315a68781b25e7e66fb8b1a795b57805230f5f5b", func := "ceilidh/ceilidhlaw12.WireBounds", spec := "wireBounds", unfollowed := true, recurses := true, apart := false, narrowed := true }
def WireBoundsUptoSaid : Prop := wireBoundsUptoRow.holds Try.pinned (OpenSpec.upto wireBoundsSpec)

end Rows
end Go.Proofs.Ytembppihfcclcaa
