/-
  No cell of these rows narrows 'for every input' (looked for: loops, veiled, ifaces, maps, wideKeys, modest, calm, conditions, laid).
  DERIVED. THE GIVEN ROWS OF THIS SEAT. 5 by the template 'for every input the law returns true; each argument reads behind the call as it read before'; 0 by the template 'total and deterministic' (their statements: YtoefnagenooaiaaTotals.lean).
  GIVEN WITH THE SEED: the statements are not yours to turn. If you find one false, say at which input.
  Laid BY PROGRAM, IN A SANDBOX (cutbox-rows.mjs): the forced cells as the released guide's own fill.sh prints them over the translation 7c8dba2cb3cc7977… (all of the seat's roots in one cut). By AI agents, Wed Nov 11 2026. No macro, syntax, notation, axiom, sorry.
-/
import Derived.Test.YtoefnagenooaiaaChecked
import GoSem.Claim
import GoSem.ClaimJoined
import GoSem.ClaimMapViews
import Derived.JoinedTies
import Derived.KernelRfl
namespace Go.Proofs.Ytoefnagenooaiaa
/- THE CELL 'sum', in the pinned program and in every row, IS THE sha256 OF THE DUMP (.gsa) THAT YtoefnagenooaiaaProg.lean LOADS. Nothing in Lean hashes anything: it is a label: what it is worth is what the hold of that sum in a sandbox is worth. -/
noncomputable def Try.pinned : Pinned := { name := "ytoefnagenooaiaa", sum := "7c8dba2cb3cc79779315efdba119f4754e337c230c127110a015e06e943d26ee", checked := Try.checked }
namespace Rows
def none {H : Type} : Left H := { results := [], args := [] }

/-- 'ceilidhlaw20.StatsAsks': WHATEVER THE INPUT: true; the input reads as it did. -/
def statsAsksSpec : ChangeSpec := { name := "statsAsks", fn := fun _ => fun
  | [d1, d2, d3, d4] => { results := [.lit (.bool true)], args := [d1, d2, d3, d4] }
  | _ => none }
def statsAsksRow : OpenClaim := { program := "ytoefnagenooaiaa", sum := "7c8dba2cb3cc79779315efdba119f4754e337c230c127110a015e06e943d26ee", func := "ceilidh/ceilidhlaw20.StatsAsks", spec := "statsAsks", inPlace := ["math.Float64frombits", "math.Float64bits"], unfollowed := true, recurses := true, apart := false }
def StatsAsksSaid : Prop := statsAsksRow.holds Try.pinned (OpenSpec.ofChange statsAsksSpec)

/-- ITS FALSE NEIGHBOUR: 'it returns false'. Refute it at one input. -/
def statsAsksWrong : ChangeSpec := { name := "statsAsks", fn := fun _ => fun
  | [d1, d2, d3, d4] => { results := [.lit (.bool false)], args := [d1, d2, d3, d4] }
  | _ => none }
def StatsAsksWrongFalsely : Prop := statsAsksRow.holds Try.pinned (OpenSpec.ofChange statsAsksWrong)

/-- 'ceilidhlaw20.StatsSteady': WHATEVER THE INPUT: true; the input reads as it did. -/
def statsSteadySpec : ChangeSpec := { name := "statsSteady", fn := fun _ => fun
  | [d1, d2] => { results := [.lit (.bool true)], args := [d1, d2] }
  | _ => none }
def statsSteadyRow : OpenClaim := { program := "ytoefnagenooaiaa", sum := "7c8dba2cb3cc79779315efdba119f4754e337c230c127110a015e06e943d26ee", func := "ceilidh/ceilidhlaw20.StatsSteady", spec := "statsSteady", inPlace := ["math.Float64bits", "math.Float64frombits"], unfollowed := true, recurses := true, apart := false }
def StatsSteadySaid : Prop := statsSteadyRow.holds Try.pinned (OpenSpec.ofChange statsSteadySpec)

/-- ITS FALSE NEIGHBOUR: 'it returns false'. Refute it at one input. -/
def statsSteadyWrong : ChangeSpec := { name := "statsSteady", fn := fun _ => fun
  | [d1, d2] => { results := [.lit (.bool false)], args := [d1, d2] }
  | _ => none }
def StatsSteadyWrongFalsely : Prop := statsSteadyRow.holds Try.pinned (OpenSpec.ofChange statsSteadyWrong)

/-- 'ceilidhlaw20.StatsKnown': WHATEVER THE INPUT: true; the input reads as it did. -/
def statsKnownSpec : ChangeSpec := { name := "statsKnown", fn := fun _ => fun
  | [d1, d2] => { results := [.lit (.bool true)], args := [d1, d2] }
  | _ => none }
def statsKnownRow : OpenClaim := { program := "ytoefnagenooaiaa", sum := "7c8dba2cb3cc79779315efdba119f4754e337c230c127110a015e06e943d26ee", func := "ceilidh/ceilidhlaw20.StatsKnown", spec := "statsKnown", inPlace := ["math.Float64bits", "math.Float64frombits"], unfollowed := true, recurses := true, apart := false }
def StatsKnownSaid : Prop := statsKnownRow.holds Try.pinned (OpenSpec.ofChange statsKnownSpec)

/-- ITS FALSE NEIGHBOUR: 'it returns false'. Refute it at one input. -/
def statsKnownWrong : ChangeSpec := { name := "statsKnown", fn := fun _ => fun
  | [d1, d2] => { results := [.lit (.bool false)], args := [d1, d2] }
  | _ => none }
def StatsKnownWrongFalsely : Prop := statsKnownRow.holds Try.pinned (OpenSpec.ofChange statsKnownWrong)

/-- 'ceilidhlaw20.StatsScore': WHATEVER THE INPUT: true; the input reads as it did. -/
def statsScoreSpec : ChangeSpec := { name := "statsScore", fn := fun _ => fun
  | [d1, d2, d3, d4] => { results := [.lit (.bool true)], args := [d1, d2, d3, d4] }
  | _ => none }
def statsScoreRow : OpenClaim := { program := "ytoefnagenooaiaa", sum := "7c8dba2cb3cc79779315efdba119f4754e337c230c127110a015e06e943d26ee", func := "ceilidh/ceilidhlaw20.StatsScore", spec := "statsScore", inPlace := ["math.Float64bits", "math.Float64frombits"], unfollowed := true, recurses := true, apart := false }
def StatsScoreSaid : Prop := statsScoreRow.holds Try.pinned (OpenSpec.ofChange statsScoreSpec)

/-- ITS FALSE NEIGHBOUR: 'it returns false'. Refute it at one input. -/
def statsScoreWrong : ChangeSpec := { name := "statsScore", fn := fun _ => fun
  | [d1, d2, d3, d4] => { results := [.lit (.bool false)], args := [d1, d2, d3, d4] }
  | _ => none }
def StatsScoreWrongFalsely : Prop := statsScoreRow.holds Try.pinned (OpenSpec.ofChange statsScoreWrong)

/-- 'ceilidhlaw20.StatsBounds': WHATEVER THE INPUT: true; the input reads as it did. -/
def statsBoundsSpec : ChangeSpec := { name := "statsBounds", fn := fun _ => fun
  | [d] => { results := [.lit (.bool true)], args := [d] }
  | _ => none }
def statsBoundsRow : OpenClaim := { program := "ytoefnagenooaiaa", sum := "7c8dba2cb3cc79779315efdba119f4754e337c230c127110a015e06e943d26ee", func := "ceilidh/ceilidhlaw20.StatsBounds", spec := "statsBounds", inPlace := ["math.Float64frombits", "math.Float64bits", "math.archMin", "math.archMax"], unfollowed := true, recurses := true, apart := false }
def StatsBoundsSaid : Prop := statsBoundsRow.holds Try.pinned (OpenSpec.ofChange statsBoundsSpec)

/-- ITS FALSE NEIGHBOUR: 'it returns false'. Refute it at one input. -/
def statsBoundsWrong : ChangeSpec := { name := "statsBounds", fn := fun _ => fun
  | [d] => { results := [.lit (.bool false)], args := [d] }
  | _ => none }
def StatsBoundsWrongFalsely : Prop := statsBoundsRow.holds Try.pinned (OpenSpec.ofChange statsBoundsWrong)

/- THE SECOND FORM. 'bulk': how many values and letters a reading holds, each counted each time it is reached (what is shared counts as often as it is met; a slice's spare places count too). A statement '..UptoSaid' is the law's where the arguments, and the package variables that the reading takes, are together of bulk at most 1048576: NARROWER than '..Said'. Prove '..Said' where nothing that the law and all that it calls make is longer than what came in: it says more and counts as full. Else prove '..UptoSaid'. A law counts once. -/
mutual
def uptoBulk {H : Type} : DataW H → Nat
  | .lit (.string bytes) => bytes.length + 1
  | .lit _ => 1
  | .nil => 1
  | .ptr d => uptoBulk d + 1
  | .slice elems spare => uptoBulkAll elems + uptoBulkAll spare + 1
  | .agg parts => uptoBulkAll parts + 1
  | .iface _ d => uptoBulk d + 1
  | .map entries => uptoBulkEntries entries + 1
  | .held _ => 1
def uptoBulkAll {H : Type} : List (DataW H) → Nat
  | [] => 0
  | d :: r => uptoBulk d + uptoBulkAll r
def uptoBulkEntries {H : Type} : List (Lit × DataW H) → Nat
  | [] => 0
  | x :: r => uptoBulkEntry x + uptoBulkEntries r
def uptoBulkEntry {H : Type} : Lit × DataW H → Nat
  | (.string bytes, d) => bytes.length + uptoBulk d + 1
  | (_, d) => uptoBulk d + 1
 end
def uptoSmall : (H : Type) → List (DataW H) → Bool := fun _ ds => decide (uptoBulkAll ds ≤ 1048576)
def OpenSpec.upto (s : _root_.Go.ChangeSpec) : _root_.Go.OpenSpec := { _root_.Go.OpenSpec.ofChange s with cond := some uptoSmall }

/-- 'ceilidhlaw20.StatsAsks', WHERE WHAT IT READS IS OF BULK AT MOST 1048576: true; the input reads as it did. -/
def statsAsksUptoRow : OpenClaim := { program := "ytoefnagenooaiaa", sum := "7c8dba2cb3cc79779315efdba119f4754e337c230c127110a015e06e943d26ee", func := "ceilidh/ceilidhlaw20.StatsAsks", spec := "statsAsks", inPlace := ["math.Float64frombits", "math.Float64bits"], unfollowed := true, recurses := true, apart := false, narrowed := true }
def StatsAsksUptoSaid : Prop := statsAsksUptoRow.holds Try.pinned (OpenSpec.upto statsAsksSpec)

/-- 'ceilidhlaw20.StatsSteady', WHERE WHAT IT READS IS OF BULK AT MOST 1048576: true; the input reads as it did. -/
def statsSteadyUptoRow : OpenClaim := { program := "ytoefnagenooaiaa", sum := "7c8dba2cb3cc79779315efdba119f4754e337c230c127110a015e06e943d26ee", func := "ceilidh/ceilidhlaw20.StatsSteady", spec := "statsSteady", inPlace := ["math.Float64bits", "math.Float64frombits"], unfollowed := true, recurses := true, apart := false, narrowed := true }
def StatsSteadyUptoSaid : Prop := statsSteadyUptoRow.holds Try.pinned (OpenSpec.upto statsSteadySpec)

/-- 'ceilidhlaw20.StatsKnown', WHERE WHAT IT READS IS OF BULK AT MOST 1048576: true; the input reads as it did. -/
def statsKnownUptoRow : OpenClaim := { program := "ytoefnagenooaiaa", sum := "7c8dba2cb3cc79779315efdba119f4754e337c230c127110a015e06e943d26ee", func := "ceilidh/ceilidhlaw20.StatsKnown", spec := "statsKnown", inPlace := ["math.Float64bits", "math.Float64frombits"], unfollowed := true, recurses := true, apart := false, narrowed := true }
def StatsKnownUptoSaid : Prop := statsKnownUptoRow.holds Try.pinned (OpenSpec.upto statsKnownSpec)

/-- 'ceilidhlaw20.StatsScore', WHERE WHAT IT READS IS OF BULK AT MOST 1048576: true; the input reads as it did. -/
def statsScoreUptoRow : OpenClaim := { program := "ytoefnagenooaiaa", sum := "7c8dba2cb3cc79779315efdba119f4754e337c230c127110a015e06e943d26ee", func := "ceilidh/ceilidhlaw20.StatsScore", spec := "statsScore", inPlace := ["math.Float64bits", "math.Float64frombits"], unfollowed := true, recurses := true, apart := false, narrowed := true }
def StatsScoreUptoSaid : Prop := statsScoreUptoRow.holds Try.pinned (OpenSpec.upto statsScoreSpec)

/-- 'ceilidhlaw20.StatsBounds', WHERE WHAT IT READS IS OF BULK AT MOST 1048576: true; the input reads as it did. -/
def statsBoundsUptoRow : OpenClaim := { program := "ytoefnagenooaiaa", sum := "7c8dba2cb3cc79779315efdba119f4754e337c230c127110a015e06e943d26ee", func := "ceilidh/ceilidhlaw20.StatsBounds", spec := "statsBounds", inPlace := ["math.Float64frombits", "math.Float64bits", "math.archMin", "math.archMax"], unfollowed := true, recurses := true, apart := false, narrowed := true }
def StatsBoundsUptoSaid : Prop := statsBoundsUptoRow.holds Try.pinned (OpenSpec.upto statsBoundsSpec)

end Rows
end Go.Proofs.Ytoefnagenooaiaa
