/-
  No cell of these rows narrows 'for every input' (looked for: loops, veiled, ifaces, maps, wideKeys, modest, calm, conditions, laid).
  DERIVED. THE GIVEN ROWS OF THIS SEAT. 3 by the template 'for every input the law returns true; each argument reads behind the call as it read before'; 0 by the template 'total and deterministic' (their statements: YthjabcogbjdkiaaTotals.lean).
  GIVEN WITH THE SEED: the statements are not yours to turn. If you find one false, say at which input.
  Laid BY PROGRAM, IN A SANDBOX (cutbox-rows.mjs): the forced cells as the released guide's own fill.sh prints them over the translation 46ae8845f5dc0441… (all of the seat's roots in one cut). By AI agents, Wed Nov 11 2026. No macro, syntax, notation, axiom, sorry.
-/
import Derived.Test.YthjabcogbjdkiaaChecked
import GoSem.Claim
import GoSem.ClaimJoined
import GoSem.ClaimMapViews
import Derived.JoinedTies
import Derived.KernelRfl
namespace Go.Proofs.Ythjabcogbjdkiaa
/- THE CELL 'sum', in the pinned program and in every row, IS THE sha256 OF THE DUMP (.gsa) THAT YthjabcogbjdkiaaProg.lean LOADS. Nothing in Lean hashes anything: it is a label: what it is worth is what the hold of that sum in a sandbox is worth. -/
noncomputable def Try.pinned : Pinned := { name := "ythjabcogbjdkiaa", sum := "46ae8845f5dc0441732cf03d4256d9410f924b70271fa4075b014ddc11daed08", checked := Try.checked }
namespace Rows
def none {H : Type} : Left H := { results := [], args := [] }

/-- 'ceilidhlaw8.RosterTurns': WHATEVER THE INPUT: true; the input reads as it did. -/
def rosterTurnsSpec : ChangeSpec := { name := "rosterTurns", fn := fun _ => fun
  | [d] => { results := [.lit (.bool true)], args := [d] }
  | _ => none }
def rosterTurnsRow : OpenClaim := { program := "ythjabcogbjdkiaa", sum := "46ae8845f5dc0441732cf03d4256d9410f924b70271fa4075b014ddc11daed08", func := "ceilidh/ceilidhlaw8.RosterTurns", spec := "rosterTurns", unfollowed := true, recurses := true, apart := false }
def RosterTurnsSaid : Prop := rosterTurnsRow.holds Try.pinned (OpenSpec.ofChange rosterTurnsSpec)

/-- ITS FALSE NEIGHBOUR: 'it returns false'. Refute it at one input. -/
def rosterTurnsWrong : ChangeSpec := { name := "rosterTurns", fn := fun _ => fun
  | [d] => { results := [.lit (.bool false)], args := [d] }
  | _ => none }
def RosterTurnsWrongFalsely : Prop := rosterTurnsRow.holds Try.pinned (OpenSpec.ofChange rosterTurnsWrong)

/-- 'ceilidhlaw8.RosterFree': WHATEVER THE INPUT: true; the input reads as it did. -/
def rosterFreeSpec : ChangeSpec := { name := "rosterFree", fn := fun _ => fun
  | [d] => { results := [.lit (.bool true)], args := [d] }
  | _ => none }
def rosterFreeRow : OpenClaim := { program := "ythjabcogbjdkiaa", sum := "46ae8845f5dc0441732cf03d4256d9410f924b70271fa4075b014ddc11daed08", func := "ceilidh/ceilidhlaw8.RosterFree", spec := "rosterFree", unfollowed := true, recurses := true, apart := false }
def RosterFreeSaid : Prop := rosterFreeRow.holds Try.pinned (OpenSpec.ofChange rosterFreeSpec)

/-- ITS FALSE NEIGHBOUR: 'it returns false'. Refute it at one input. -/
def rosterFreeWrong : ChangeSpec := { name := "rosterFree", fn := fun _ => fun
  | [d] => { results := [.lit (.bool false)], args := [d] }
  | _ => none }
def RosterFreeWrongFalsely : Prop := rosterFreeRow.holds Try.pinned (OpenSpec.ofChange rosterFreeWrong)

/-- 'ceilidhlaw8.RosterBack': WHATEVER THE INPUT: true; the input reads as it did. -/
def rosterBackSpec : ChangeSpec := { name := "rosterBack", fn := fun _ => fun
  | [d1, d2, d3] => { results := [.lit (.bool true)], args := [d1, d2, d3] }
  | _ => none }
def rosterBackRow : OpenClaim := { program := "ythjabcogbjdkiaa", sum := "46ae8845f5dc0441732cf03d4256d9410f924b70271fa4075b014ddc11daed08", func := "ceilidh/ceilidhlaw8.RosterBack", spec := "rosterBack", unfollowed := true, recurses := true, apart := false }
def RosterBackSaid : Prop := rosterBackRow.holds Try.pinned (OpenSpec.ofChange rosterBackSpec)

/-- ITS FALSE NEIGHBOUR: 'it returns false'. Refute it at one input. -/
def rosterBackWrong : ChangeSpec := { name := "rosterBack", fn := fun _ => fun
  | [d1, d2, d3] => { results := [.lit (.bool false)], args := [d1, d2, d3] }
  | _ => none }
def RosterBackWrongFalsely : Prop := rosterBackRow.holds Try.pinned (OpenSpec.ofChange rosterBackWrong)

/- THE SECOND FORM. 'bulk': how many values and letters a reading holds, each counted each time it is reached (what is shared counts as often as it is met; a slice's spare places count too). A statement '..UptoSaid' is the law's where the arguments, and the package variables that the reading takes, are together of bulk at most 1048576: NARROWER than '..Said'. Prove '..Said' where nothing that the law and all that it calls make is longer than what came in: it says more and counts as full. Else prove '..UptoSaid'. A law counts once. -/
mutual
def uptoBulk {H : Type} : DataW H → Nat
  | .lit (.string bytes) => bytes.length + 1
  | .lit _ => 1
  | .nil => 1
  | .ptr d => uptoBulk d + 1
  | .slice elems spare => uptoBulkAll elems + uptoBulkAll spare + 1
  | .agg parts => uptoBulkAll parts + 1
  | .iface _ d => uptoBulk d + 1
  | .map entries => uptoBulkEntries entries + 1
  | .held _ => 1
def uptoBulkAll {H : Type} : List (DataW H) → Nat
  | [] => 0
  | d :: r => uptoBulk d + uptoBulkAll r
def uptoBulkEntries {H : Type} : List (Lit × DataW H) → Nat
  | [] => 0
  | x :: r => uptoBulkEntry x + uptoBulkEntries r
def uptoBulkEntry {H : Type} : Lit × DataW H → Nat
  | (.string bytes, d) => bytes.length + uptoBulk d + 1
  | (_, d) => uptoBulk d + 1
 end
def uptoSmall : (H : Type) → List (DataW H) → Bool := fun _ ds => decide (uptoBulkAll ds ≤ 1048576)
def OpenSpec.upto (s : _root_.Go.ChangeSpec) : _root_.Go.OpenSpec := { _root_.Go.OpenSpec.ofChange s with cond := some uptoSmall }

/-- 'ceilidhlaw8.RosterTurns', WHERE WHAT IT READS IS OF BULK AT MOST 1048576: true; the input reads as it did. -/
def rosterTurnsUptoRow : OpenClaim := { program := "ythjabcogbjdkiaa", sum := "46ae8845f5dc0441732cf03d4256d9410f924b70271fa4075b014ddc11daed08", func := "ceilidh/ceilidhlaw8.RosterTurns", spec := "rosterTurns", unfollowed := true, recurses := true, apart := false, narrowed := true }
def RosterTurnsUptoSaid : Prop := rosterTurnsUptoRow.holds Try.pinned (OpenSpec.upto rosterTurnsSpec)

/-- 'ceilidhlaw8.RosterFree', WHERE WHAT IT READS IS OF BULK AT MOST 1048576: true; the input reads as it did. -/
def rosterFreeUptoRow : OpenClaim := { program := "ythjabcogbjdkiaa", sum := "46ae8845f5dc0441732cf03d4256d9410f924b70271fa4075b014ddc11daed08", func := "ceilidh/ceilidhlaw8.RosterFree", spec := "rosterFree", unfollowed := true, recurses := true, apart := false, narrowed := true }
def RosterFreeUptoSaid : Prop := rosterFreeUptoRow.holds Try.pinned (OpenSpec.upto rosterFreeSpec)

/-- 'ceilidhlaw8.RosterBack', WHERE WHAT IT READS IS OF BULK AT MOST 1048576: true; the input reads as it did. -/
def rosterBackUptoRow : OpenClaim := { program := "ythjabcogbjdkiaa", sum := "46ae8845f5dc0441732cf03d4256d9410f924b70271fa4075b014ddc11daed08", func := "ceilidh/ceilidhlaw8.RosterBack", spec := "rosterBack", unfollowed := true, recurses := true, apart := false, narrowed := true }
def RosterBackUptoSaid : Prop := rosterBackUptoRow.holds Try.pinned (OpenSpec.upto rosterBackSpec)

end Rows
end Go.Proofs.Ythjabcogbjdkiaa
