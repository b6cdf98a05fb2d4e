/-
  No cell of these rows narrows 'for every input' (looked for: loops, veiled, ifaces, maps, wideKeys, modest, calm, conditions, laid).
  DERIVED. THE GIVEN ROWS OF THIS SEAT. 5 by the template 'for every input the law returns true; each argument reads behind the call as it read before'; 0 by the template 'total and deterministic' (their statements: YtmhgkkfeohaojaaTotals.lean).
  GIVEN WITH THE SEED: the statements are not yours to turn. If you find one false, say at which input.
  Laid BY PROGRAM, IN A SANDBOX (cutbox-rows.mjs): the forced cells as the released guide's own fill.sh prints them over the translation a5c02e7fdf735ca3… (all of the seat's roots in one cut). By AI agents, Wed Nov 11 2026. No macro, syntax, notation, axiom, sorry.
-/
import Derived.Test.YtmhgkkfeohaojaaChecked
import GoSem.Claim
import GoSem.ClaimJoined
import GoSem.ClaimMapViews
import Derived.JoinedTies
import Derived.KernelRfl
namespace Go.Proofs.Ytmhgkkfeohaojaa
/- THE CELL 'sum', in the pinned program and in every row, IS THE sha256 OF THE DUMP (.gsa) THAT YtmhgkkfeohaojaaProg.lean LOADS. Nothing in Lean hashes anything: it is a label: what it is worth is what the hold of that sum in a sandbox is worth. -/
noncomputable def Try.pinned : Pinned := { name := "ytmhgkkfeohaojaa", sum := "a5c02e7fdf735ca32d7ec9b3a3ace40062bdbf2995baae1edc7bc78cf658c2e9", checked := Try.checked }
namespace Rows
def none {H : Type} : Left H := { results := [], args := [] }

/-- 'ceilidhlaw9.EntryAsks': WHATEVER THE INPUT: true; the input reads as it did. -/
def entryAsksSpec : ChangeSpec := { name := "entryAsks", fn := fun _ => fun
  | [d1, d2, d3] => { results := [.lit (.bool true)], args := [d1, d2, d3] }
  | _ => none }
def entryAsksRow : OpenClaim := { program := "ytmhgkkfeohaojaa", sum := "a5c02e7fdf735ca32d7ec9b3a3ace40062bdbf2995baae1edc7bc78cf658c2e9", func := "ceilidh/ceilidhlaw9.EntryAsks", spec := "entryAsks", unfollowed := true, recurses := true, apart := false }
def EntryAsksSaid : Prop := entryAsksRow.holds Try.pinned (OpenSpec.ofChange entryAsksSpec)

/-- ITS FALSE NEIGHBOUR: 'it returns false'. Refute it at one input. -/
def entryAsksWrong : ChangeSpec := { name := "entryAsks", fn := fun _ => fun
  | [d1, d2, d3] => { results := [.lit (.bool false)], args := [d1, d2, d3] }
  | _ => none }
def EntryAsksWrongFalsely : Prop := entryAsksRow.holds Try.pinned (OpenSpec.ofChange entryAsksWrong)

/-- 'ceilidhlaw9.EntryBack': WHATEVER THE INPUT: true; the input reads as it did. -/
def entryBackSpec : ChangeSpec := { name := "entryBack", fn := fun _ => fun
  | [d1, d2, d3] => { results := [.lit (.bool true)], args := [d1, d2, d3] }
  | _ => none }
def entryBackRow : OpenClaim := { program := "ytmhgkkfeohaojaa", sum := "a5c02e7fdf735ca32d7ec9b3a3ace40062bdbf2995baae1edc7bc78cf658c2e9", func := "ceilidh/ceilidhlaw9.EntryBack", spec := "entryBack", unfollowed := true, recurses := true, apart := false }
def EntryBackSaid : Prop := entryBackRow.holds Try.pinned (OpenSpec.ofChange entryBackSpec)

/-- ITS FALSE NEIGHBOUR: 'it returns false'. Refute it at one input. -/
def entryBackWrong : ChangeSpec := { name := "entryBack", fn := fun _ => fun
  | [d1, d2, d3] => { results := [.lit (.bool false)], args := [d1, d2, d3] }
  | _ => none }
def EntryBackWrongFalsely : Prop := entryBackRow.holds Try.pinned (OpenSpec.ofChange entryBackWrong)

/-- 'ceilidhlaw9.EntryEvents': WHATEVER THE INPUT: true; the input reads as it did. -/
def entryEventsSpec : ChangeSpec := { name := "entryEvents", fn := fun _ => fun
  | [d1, d2] => { results := [.lit (.bool true)], args := [d1, d2] }
  | _ => none }
def entryEventsRow : OpenClaim := { program := "ytmhgkkfeohaojaa", sum := "a5c02e7fdf735ca32d7ec9b3a3ace40062bdbf2995baae1edc7bc78cf658c2e9", func := "ceilidh/ceilidhlaw9.EntryEvents", spec := "entryEvents", unfollowed := true, recurses := true, apart := false }
def EntryEventsSaid : Prop := entryEventsRow.holds Try.pinned (OpenSpec.ofChange entryEventsSpec)

/-- ITS FALSE NEIGHBOUR: 'it returns false'. Refute it at one input. -/
def entryEventsWrong : ChangeSpec := { name := "entryEvents", fn := fun _ => fun
  | [d1, d2] => { results := [.lit (.bool false)], args := [d1, d2] }
  | _ => none }
def EntryEventsWrongFalsely : Prop := entryEventsRow.holds Try.pinned (OpenSpec.ofChange entryEventsWrong)

/-- 'ceilidhlaw9.EntryFront': WHATEVER THE INPUT: true; the input reads as it did. -/
def entryFrontSpec : ChangeSpec := { name := "entryFront", fn := fun _ => fun
  | [d1, d2, d3] => { results := [.lit (.bool true)], args := [d1, d2, d3] }
  | _ => none }
def entryFrontRow : OpenClaim := { program := "ytmhgkkfeohaojaa", sum := "a5c02e7fdf735ca32d7ec9b3a3ace40062bdbf2995baae1edc7bc78cf658c2e9", func := "ceilidh/ceilidhlaw9.EntryFront", spec := "entryFront", unfollowed := true, recurses := true, apart := false }
def EntryFrontSaid : Prop := entryFrontRow.holds Try.pinned (OpenSpec.ofChange entryFrontSpec)

/-- ITS FALSE NEIGHBOUR: 'it returns false'. Refute it at one input. -/
def entryFrontWrong : ChangeSpec := { name := "entryFront", fn := fun _ => fun
  | [d1, d2, d3] => { results := [.lit (.bool false)], args := [d1, d2, d3] }
  | _ => none }
def EntryFrontWrongFalsely : Prop := entryFrontRow.holds Try.pinned (OpenSpec.ofChange entryFrontWrong)

/-- 'ceilidhlaw9.EntryLong': WHATEVER THE INPUT: true; the input reads as it did. -/
def entryLongSpec : ChangeSpec := { name := "entryLong", fn := fun _ => fun
  | [d] => { results := [.lit (.bool true)], args := [d] }
  | _ => none }
def entryLongRow : OpenClaim := { program := "ytmhgkkfeohaojaa", sum := "a5c02e7fdf735ca32d7ec9b3a3ace40062bdbf2995baae1edc7bc78cf658c2e9", func := "ceilidh/ceilidhlaw9.EntryLong", spec := "entryLong", unfollowed := true, recurses := true, apart := false }
def EntryLongSaid : Prop := entryLongRow.holds Try.pinned (OpenSpec.ofChange entryLongSpec)

/-- ITS FALSE NEIGHBOUR: 'it returns false'. Refute it at one input. -/
def entryLongWrong : ChangeSpec := { name := "entryLong", fn := fun _ => fun
  | [d] => { results := [.lit (.bool false)], args := [d] }
  | _ => none }
def EntryLongWrongFalsely : Prop := entryLongRow.holds Try.pinned (OpenSpec.ofChange entryLongWrong)

/- THE SECOND FORM. 'bulk': how many values and letters a reading holds, each counted each time it is reached (what is shared counts as often as it is met; a slice's spare places count too). A statement '..UptoSaid' is the law's where the arguments, and the package variables that the reading takes, are together of bulk at most 1048576: NARROWER than '..Said'. Prove '..Said' where nothing that the law and all that it calls make is longer than what came in: it says more and counts as full. Else prove '..UptoSaid'. A law counts once. -/
mutual
def uptoBulk {H : Type} : DataW H → Nat
  | .lit (.string bytes) => bytes.length + 1
  | .lit _ => 1
  | .nil => 1
  | .ptr d => uptoBulk d + 1
  | .slice elems spare => uptoBulkAll elems + uptoBulkAll spare + 1
  | .agg parts => uptoBulkAll parts + 1
  | .iface _ d => uptoBulk d + 1
  | .map entries => uptoBulkEntries entries + 1
  | .held _ => 1
def uptoBulkAll {H : Type} : List (DataW H) → Nat
  | [] => 0
  | d :: r => uptoBulk d + uptoBulkAll r
def uptoBulkEntries {H : Type} : List (Lit × DataW H) → Nat
  | [] => 0
  | x :: r => uptoBulkEntry x + uptoBulkEntries r
def uptoBulkEntry {H : Type} : Lit × DataW H → Nat
  | (.string bytes, d) => bytes.length + uptoBulk d + 1
  | (_, d) => uptoBulk d + 1
 end
def uptoSmall : (H : Type) → List (DataW H) → Bool := fun _ ds => decide (uptoBulkAll ds ≤ 1048576)
def OpenSpec.upto (s : _root_.Go.ChangeSpec) : _root_.Go.OpenSpec := { _root_.Go.OpenSpec.ofChange s with cond := some uptoSmall }

/-- 'ceilidhlaw9.EntryAsks', WHERE WHAT IT READS IS OF BULK AT MOST 1048576: true; the input reads as it did. -/
def entryAsksUptoRow : OpenClaim := { program := "ytmhgkkfeohaojaa", sum := "a5c02e7fdf735ca32d7ec9b3a3ace40062bdbf2995baae1edc7bc78cf658c2e9", func := "ceilidh/ceilidhlaw9.EntryAsks", spec := "entryAsks", unfollowed := true, recurses := true, apart := false, narrowed := true }
def EntryAsksUptoSaid : Prop := entryAsksUptoRow.holds Try.pinned (OpenSpec.upto entryAsksSpec)

/-- 'ceilidhlaw9.EntryBack', WHERE WHAT IT READS IS OF BULK AT MOST 1048576: true; the input reads as it did. -/
def entryBackUptoRow : OpenClaim := { program := "ytmhgkkfeohaojaa", sum := "a5c02e7fdf735ca32d7ec9b3a3ace40062bdbf2995baae1edc7bc78cf658c2e9", func := "ceilidh/ceilidhlaw9.EntryBack", spec := "entryBack", unfollowed := true, recurses := true, apart := false, narrowed := true }
def EntryBackUptoSaid : Prop := entryBackUptoRow.holds Try.pinned (OpenSpec.upto entryBackSpec)

/-- 'ceilidhlaw9.EntryEvents', WHERE WHAT IT READS IS OF BULK AT MOST 1048576: true; the input reads as it did. -/
def entryEventsUptoRow : OpenClaim := { program := "ytmhgkkfeohaojaa", sum := "a5c02e7fdf735ca32d7ec9b3a3ace40062bdbf2995baae1edc7bc78cf658c2e9", func := "ceilidh/ceilidhlaw9.EntryEvents", spec := "entryEvents", unfollowed := true, recurses := true, apart := false, narrowed := true }
def EntryEventsUptoSaid : Prop := entryEventsUptoRow.holds Try.pinned (OpenSpec.upto entryEventsSpec)

/-- 'ceilidhlaw9.EntryFront', WHERE WHAT IT READS IS OF BULK AT MOST 1048576: true; the input reads as it did. -/
def entryFrontUptoRow : OpenClaim := { program := "ytmhgkkfeohaojaa", sum := "a5c02e7fdf735ca32d7ec9b3a3ace40062bdbf2995baae1edc7bc78cf658c2e9", func := "ceilidh/ceilidhlaw9.EntryFront", spec := "entryFront", unfollowed := true, recurses := true, apart := false, narrowed := true }
def EntryFrontUptoSaid : Prop := entryFrontUptoRow.holds Try.pinned (OpenSpec.upto entryFrontSpec)

/-- 'ceilidhlaw9.EntryLong', WHERE WHAT IT READS IS OF BULK AT MOST 1048576: true; the input reads as it did. -/
def entryLongUptoRow : OpenClaim := { program := "ytmhgkkfeohaojaa", sum := "a5c02e7fdf735ca32d7ec9b3a3ace40062bdbf2995baae1edc7bc78cf658c2e9", func := "ceilidh/ceilidhlaw9.EntryLong", spec := "entryLong", unfollowed := true, recurses := true, apart := false, narrowed := true }
def EntryLongUptoSaid : Prop := entryLongUptoRow.holds Try.pinned (OpenSpec.upto entryLongSpec)

end Rows
end Go.Proofs.Ytmhgkkfeohaojaa
