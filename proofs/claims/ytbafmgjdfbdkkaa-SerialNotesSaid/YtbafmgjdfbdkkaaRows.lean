/-
  No cell of these rows narrows 'for every input' (looked for: loops, veiled, ifaces, maps, wideKeys, modest, calm, conditions, laid).
  DERIVED. THE GIVEN ROWS OF THIS SEAT. 6 by the template 'for every input the law returns true; each argument reads behind the call as it read before'; 0 by the template 'total and deterministic' (their statements: YtbafmgjdfbdkkaaTotals.lean).
  GIVEN WITH THE SEED: the statements are not yours to turn. If you find one false, say at which input.
  Laid BY PROGRAM, IN A SANDBOX (cutbox-rows.mjs): the forced cells as the released guide's own fill.sh prints them over the translation 06a3ce80c756a592… (all of the seat's roots in one cut). By AI agents, Wed Nov 11 2026. No macro, syntax, notation, axiom, sorry.
-/
import Derived.Test.YtbafmgjdfbdkkaaChecked
import GoSem.Claim
import GoSem.ClaimJoined
import GoSem.ClaimMapViews
import Derived.JoinedTies
import Derived.KernelRfl
namespace Go.Proofs.Ytbafmgjdfbdkkaa
/- THE CELL 'sum', in the pinned program and in every row, IS THE sha256 OF THE DUMP (.gsa) THAT YtbafmgjdfbdkkaaProg.lean LOADS. Nothing in Lean hashes anything: it is a label: what it is worth is what the hold of that sum in a sandbox is worth. -/
noncomputable def Try.pinned : Pinned := { name := "ytbafmgjdfbdkkaa", sum := "06a3ce80c756a59233d38278106d197a8f9de17d97e0f5769e0a9ee901f14ecb", checked := Try.checked }
namespace Rows
def none {H : Type} : Left H := { results := [], args := [] }

/-- 'ceilidhlaw11.SerialAsks': WHATEVER THE INPUT: true; the input reads as it did. -/
def serialAsksSpec : ChangeSpec := { name := "serialAsks", fn := fun _ => fun
  | [d1, d2, d3, d4] => { results := [.lit (.bool true)], args := [d1, d2, d3, d4] }
  | _ => none }
def serialAsksRow : OpenClaim := { program := "ytbafmgjdfbdkkaa", sum := "06a3ce80c756a59233d38278106d197a8f9de17d97e0f5769e0a9ee901f14ecb", func := "ceilidh/ceilidhlaw11.SerialAsks", spec := "serialAsks", unfollowed := true, recurses := true, apart := false }
def SerialAsksSaid : Prop := serialAsksRow.holds Try.pinned (OpenSpec.ofChange serialAsksSpec)

/-- ITS FALSE NEIGHBOUR: 'it returns false'. Refute it at one input. -/
def serialAsksWrong : ChangeSpec := { name := "serialAsks", fn := fun _ => fun
  | [d1, d2, d3, d4] => { results := [.lit (.bool false)], args := [d1, d2, d3, d4] }
  | _ => none }
def SerialAsksWrongFalsely : Prop := serialAsksRow.holds Try.pinned (OpenSpec.ofChange serialAsksWrong)

/-- 'ceilidhlaw11.SerialNotes': WHATEVER THE INPUT: true; the input reads as it did. -/
def serialNotesSpec : ChangeSpec := { name := "serialNotes", fn := fun _ => fun
  | [d1, d2] => { results := [.lit (.bool true)], args := [d1, d2] }
  | _ => none }
def serialNotesRow : OpenClaim := { program := "ytbafmgjdfbdkkaa", sum := "06a3ce80c756a59233d38278106d197a8f9de17d97e0f5769e0a9ee901f14ecb", func := "ceilidh/ceilidhlaw11.SerialNotes", spec := "serialNotes", unfollowed := true, recurses := true, apart := false }
def SerialNotesSaid : Prop := serialNotesRow.holds Try.pinned (OpenSpec.ofChange serialNotesSpec)

/-- ITS FALSE NEIGHBOUR: 'it returns false'. Refute it at one input. -/
def serialNotesWrong : ChangeSpec := { name := "serialNotes", fn := fun _ => fun
  | [d1, d2] => { results := [.lit (.bool false)], args := [d1, d2] }
  | _ => none }
def SerialNotesWrongFalsely : Prop := serialNotesRow.holds Try.pinned (OpenSpec.ofChange serialNotesWrong)

/-- 'ceilidhlaw11.SerialOnce': WHATEVER THE INPUT: true; the input reads as it did. -/
def serialOnceSpec : ChangeSpec := { name := "serialOnce", fn := fun _ => fun
  | [d1, d2] => { results := [.lit (.bool true)], args := [d1, d2] }
  | _ => none }
def serialOnceRow : OpenClaim := { program := "ytbafmgjdfbdkkaa", sum := "06a3ce80c756a59233d38278106d197a8f9de17d97e0f5769e0a9ee901f14ecb", func := "ceilidh/ceilidhlaw11.SerialOnce", spec := "serialOnce", unfollowed := true, recurses := true, apart := false }
def SerialOnceSaid : Prop := serialOnceRow.holds Try.pinned (OpenSpec.ofChange serialOnceSpec)

/-- ITS FALSE NEIGHBOUR: 'it returns false'. Refute it at one input. -/
def serialOnceWrong : ChangeSpec := { name := "serialOnce", fn := fun _ => fun
  | [d1, d2] => { results := [.lit (.bool false)], args := [d1, d2] }
  | _ => none }
def SerialOnceWrongFalsely : Prop := serialOnceRow.holds Try.pinned (OpenSpec.ofChange serialOnceWrong)

/-- 'ceilidhlaw11.SerialWays': WHATEVER THE INPUT: true; the input reads as it did. -/
def serialWaysSpec : ChangeSpec := { name := "serialWays", fn := fun _ => fun
  | [d1, d2, d3] => { results := [.lit (.bool true)], args := [d1, d2, d3] }
  | _ => none }
def serialWaysRow : OpenClaim := { program := "ytbafmgjdfbdkkaa", sum := "06a3ce80c756a59233d38278106d197a8f9de17d97e0f5769e0a9ee901f14ecb", func := "ceilidh/ceilidhlaw11.SerialWays", spec := "serialWays", unfollowed := true, recurses := true, apart := false }
def SerialWaysSaid : Prop := serialWaysRow.holds Try.pinned (OpenSpec.ofChange serialWaysSpec)

/-- ITS FALSE NEIGHBOUR: 'it returns false'. Refute it at one input. -/
def serialWaysWrong : ChangeSpec := { name := "serialWays", fn := fun _ => fun
  | [d1, d2, d3] => { results := [.lit (.bool false)], args := [d1, d2, d3] }
  | _ => none }
def SerialWaysWrongFalsely : Prop := serialWaysRow.holds Try.pinned (OpenSpec.ofChange serialWaysWrong)

/-- 'ceilidhlaw11.SerialRuns': WHATEVER THE INPUT: true; the input reads as it did. -/
def serialRunsSpec : ChangeSpec := { name := "serialRuns", fn := fun _ => fun
  | [d1, d2] => { results := [.lit (.bool true)], args := [d1, d2] }
  | _ => none }
def serialRunsRow : OpenClaim := { program := "ytbafmgjdfbdkkaa", sum := "06a3ce80c756a59233d38278106d197a8f9de17d97e0f5769e0a9ee901f14ecb", func := "ceilidh/ceilidhlaw11.SerialRuns", spec := "serialRuns", unfollowed := true, recurses := true, apart := false }
def SerialRunsSaid : Prop := serialRunsRow.holds Try.pinned (OpenSpec.ofChange serialRunsSpec)

/-- ITS FALSE NEIGHBOUR: 'it returns false'. Refute it at one input. -/
def serialRunsWrong : ChangeSpec := { name := "serialRuns", fn := fun _ => fun
  | [d1, d2] => { results := [.lit (.bool false)], args := [d1, d2] }
  | _ => none }
def SerialRunsWrongFalsely : Prop := serialRunsRow.holds Try.pinned (OpenSpec.ofChange serialRunsWrong)

/-- 'ceilidhlaw11.SerialGaps': WHATEVER THE INPUT: true; the input reads as it did. -/
def serialGapsSpec : ChangeSpec := { name := "serialGaps", fn := fun _ => fun
  | [d1, d2] => { results := [.lit (.bool true)], args := [d1, d2] }
  | _ => none }
def serialGapsRow : OpenClaim := { program := "ytbafmgjdfbdkkaa", sum := "06a3ce80c756a59233d38278106d197a8f9de17d97e0f5769e0a9ee901f14ecb", func := "ceilidh/ceilidhlaw11.SerialGaps", spec := "serialGaps", unfollowed := true, recurses := true, apart := false }
def SerialGapsSaid : Prop := serialGapsRow.holds Try.pinned (OpenSpec.ofChange serialGapsSpec)

/-- ITS FALSE NEIGHBOUR: 'it returns false'. Refute it at one input. -/
def serialGapsWrong : ChangeSpec := { name := "serialGaps", fn := fun _ => fun
  | [d1, d2] => { results := [.lit (.bool false)], args := [d1, d2] }
  | _ => none }
def SerialGapsWrongFalsely : Prop := serialGapsRow.holds Try.pinned (OpenSpec.ofChange serialGapsWrong)

/- THE SECOND FORM. 'bulk': how many values and letters a reading holds, each counted each time it is reached (what is shared counts as often as it is met; a slice's spare places count too). A statement '..UptoSaid' is the law's where the arguments, and the package variables that the reading takes, are together of bulk at most 1048576: NARROWER than '..Said'. Prove '..Said' where nothing that the law and all that it calls make is longer than what came in: it says more and counts as full. Else prove '..UptoSaid'. A law counts once. -/
mutual
def uptoBulk {H : Type} : DataW H → Nat
  | .lit (.string bytes) => bytes.length + 1
  | .lit _ => 1
  | .nil => 1
  | .ptr d => uptoBulk d + 1
  | .slice elems spare => uptoBulkAll elems + uptoBulkAll spare + 1
  | .agg parts => uptoBulkAll parts + 1
  | .iface _ d => uptoBulk d + 1
  | .map entries => uptoBulkEntries entries + 1
  | .held _ => 1
def uptoBulkAll {H : Type} : List (DataW H) → Nat
  | [] => 0
  | d :: r => uptoBulk d + uptoBulkAll r
def uptoBulkEntries {H : Type} : List (Lit × DataW H) → Nat
  | [] => 0
  | x :: r => uptoBulkEntry x + uptoBulkEntries r
def uptoBulkEntry {H : Type} : Lit × DataW H → Nat
  | (.string bytes, d) => bytes.length + uptoBulk d + 1
  | (_, d) => uptoBulk d + 1
 end
def uptoSmall : (H : Type) → List (DataW H) → Bool := fun _ ds => decide (uptoBulkAll ds ≤ 1048576)
def OpenSpec.upto (s : _root_.Go.ChangeSpec) : _root_.Go.OpenSpec := { _root_.Go.OpenSpec.ofChange s with cond := some uptoSmall }

/-- 'ceilidhlaw11.SerialAsks', WHERE WHAT IT READS IS OF BULK AT MOST 1048576: true; the input reads as it did. -/
def serialAsksUptoRow : OpenClaim := { program := "ytbafmgjdfbdkkaa", sum := "06a3ce80c756a59233d38278106d197a8f9de17d97e0f5769e0a9ee901f14ecb", func := "ceilidh/ceilidhlaw11.SerialAsks", spec := "serialAsks", unfollowed := true, recurses := true, apart := false, narrowed := true }
def SerialAsksUptoSaid : Prop := serialAsksUptoRow.holds Try.pinned (OpenSpec.upto serialAsksSpec)

/-- 'ceilidhlaw11.SerialNotes', WHERE WHAT IT READS IS OF BULK AT MOST 1048576: true; the input reads as it did. -/
def serialNotesUptoRow : OpenClaim := { program := "ytbafmgjdfbdkkaa", sum := "06a3ce80c756a59233d38278106d197a8f9de17d97e0f5769e0a9ee901f14ecb", func := "ceilidh/ceilidhlaw11.SerialNotes", spec := "serialNotes", unfollowed := true, recurses := true, apart := false, narrowed := true }
def SerialNotesUptoSaid : Prop := serialNotesUptoRow.holds Try.pinned (OpenSpec.upto serialNotesSpec)

/-- 'ceilidhlaw11.SerialOnce', WHERE WHAT IT READS IS OF BULK AT MOST 1048576: true; the input reads as it did. -/
def serialOnceUptoRow : OpenClaim := { program := "ytbafmgjdfbdkkaa", sum := "06a3ce80c756a59233d38278106d197a8f9de17d97e0f5769e0a9ee901f14ecb", func := "ceilidh/ceilidhlaw11.SerialOnce", spec := "serialOnce", unfollowed := true, recurses := true, apart := false, narrowed := true }
def SerialOnceUptoSaid : Prop := serialOnceUptoRow.holds Try.pinned (OpenSpec.upto serialOnceSpec)

/-- 'ceilidhlaw11.SerialWays', WHERE WHAT IT READS IS OF BULK AT MOST 1048576: true; the input reads as it did. -/
def serialWaysUptoRow : OpenClaim := { program := "ytbafmgjdfbdkkaa", sum := "06a3ce80c756a59233d38278106d197a8f9de17d97e0f5769e0a9ee901f14ecb", func := "ceilidh/ceilidhlaw11.SerialWays", spec := "serialWays", unfollowed := true, recurses := true, apart := false, narrowed := true }
def SerialWaysUptoSaid : Prop := serialWaysUptoRow.holds Try.pinned (OpenSpec.upto serialWaysSpec)

/-- 'ceilidhlaw11.SerialRuns', WHERE WHAT IT READS IS OF BULK AT MOST 1048576: true; the input reads as it did. -/
def serialRunsUptoRow : OpenClaim := { program := "ytbafmgjdfbdkkaa", sum := "06a3ce80c756a59233d38278106d197a8f9de17d97e0f5769e0a9ee901f14ecb", func := "ceilidh/ceilidhlaw11.SerialRuns", spec := "serialRuns", unfollowed := true, recurses := true, apart := false, narrowed := true }
def SerialRunsUptoSaid : Prop := serialRunsUptoRow.holds Try.pinned (OpenSpec.upto serialRunsSpec)

/-- 'ceilidhlaw11.SerialGaps', WHERE WHAT IT READS IS OF BULK AT MOST 1048576: true; the input reads as it did. -/
def serialGapsUptoRow : OpenClaim := { program := "ytbafmgjdfbdkkaa", sum := "06a3ce80c756a59233d38278106d197a8f9de17d97e0f5769e0a9ee901f14ecb", func := "ceilidh/ceilidhlaw11.SerialGaps", spec := "serialGaps", unfollowed := true, recurses := true, apart := false, narrowed := true }
def SerialGapsUptoSaid : Prop := serialGapsUptoRow.holds Try.pinned (OpenSpec.upto serialGapsSpec)

end Rows
end Go.Proofs.Ytbafmgjdfbdkkaa
