/-
  No cell of these rows narrows 'for every input' (looked for: loops, veiled, ifaces, maps, wideKeys, modest, calm, conditions, laid).
  DERIVED. THE GIVEN ROWS OF THIS SEAT. 4 by the template 'for every input the law returns true; each argument reads behind the call as it read before'; 0 by the template 'total and deterministic' (their statements: YtfadaakogpbgfaaTotals.lean).
  GIVEN WITH THE SEED: the statements are not yours to turn. If you find one false, say at which input.
  Laid BY PROGRAM, IN A SANDBOX (cutbox-rows.mjs): the forced cells as the released guide's own fill.sh prints them over the translation a3ebec7625848330… (all of the seat's roots in one cut). By AI agents, Wed Nov 11 2026. No macro, syntax, notation, axiom, sorry.
-/
import Derived.Test.YtfadaakogpbgfaaChecked
import GoSem.Claim
import GoSem.ClaimJoined
import GoSem.ClaimMapViews
import Derived.JoinedTies
import Derived.KernelRfl
namespace Go.Proofs.Ytfadaakogpbgfaa
/- THE CELL 'sum', in the pinned program and in every row, IS THE sha256 OF THE DUMP (.gsa) THAT YtfadaakogpbgfaaProg.lean LOADS. Nothing in Lean hashes anything: it is a label: what it is worth is what the hold of that sum in a sandbox is worth. -/
noncomputable def Try.pinned : Pinned := { name := "ytfadaakogpbgfaa", sum := "a3ebec76258483301634d1b412d542b0c1ab61ec1969240359f53af9c4319458", checked := Try.checked }
namespace Rows
def none {H : Type} : Left H := { results := [], args := [] }

/-- 'ceilidhlaw13.LinkPlays': WHATEVER THE INPUT: true; the input reads as it did. -/
def linkPlaysSpec : ChangeSpec := { name := "linkPlays", fn := fun _ => fun
  | [d1, d2] => { results := [.lit (.bool true)], args := [d1, d2] }
  | _ => none }
def linkPlaysRow : OpenClaim := { program := "ytfadaakogpbgfaa", sum := "a3ebec76258483301634d1b412d542b0c1ab61ec1969240359f53af9c4319458", func := "ceilidh/ceilidhlaw13.LinkPlays", spec := "linkPlays", unfollowed := true, recurses := true, apart := false }
def LinkPlaysSaid : Prop := linkPlaysRow.holds Try.pinned (OpenSpec.ofChange linkPlaysSpec)

/-- ITS FALSE NEIGHBOUR: 'it returns false'. Refute it at one input. -/
def linkPlaysWrong : ChangeSpec := { name := "linkPlays", fn := fun _ => fun
  | [d1, d2] => { results := [.lit (.bool false)], args := [d1, d2] }
  | _ => none }
def LinkPlaysWrongFalsely : Prop := linkPlaysRow.holds Try.pinned (OpenSpec.ofChange linkPlaysWrong)

/-- 'ceilidhlaw13.LinkTwo': WHATEVER THE INPUT: true; the input reads as it did. -/
def linkTwoSpec : ChangeSpec := { name := "linkTwo", fn := fun _ => fun
  | [d] => { results := [.lit (.bool true)], args := [d] }
  | _ => none }
def linkTwoRow : OpenClaim := { program := "ytfadaakogpbgfaa", sum := "a3ebec76258483301634d1b412d542b0c1ab61ec1969240359f53af9c4319458", func := "ceilidh/ceilidhlaw13.LinkTwo", spec := "linkTwo", unfollowed := true, recurses := true, apart := false }
def LinkTwoSaid : Prop := linkTwoRow.holds Try.pinned (OpenSpec.ofChange linkTwoSpec)

/-- ITS FALSE NEIGHBOUR: 'it returns false'. Refute it at one input. -/
def linkTwoWrong : ChangeSpec := { name := "linkTwo", fn := fun _ => fun
  | [d] => { results := [.lit (.bool false)], args := [d] }
  | _ => none }
def LinkTwoWrongFalsely : Prop := linkTwoRow.holds Try.pinned (OpenSpec.ofChange linkTwoWrong)

/-- 'ceilidhlaw13.LinkMany': WHATEVER THE INPUT: true; the input reads as it did. -/
def linkManySpec : ChangeSpec := { name := "linkMany", fn := fun _ => fun
  | [d1, d2] => { results := [.lit (.bool true)], args := [d1, d2] }
  | _ => none }
def linkManyRow : OpenClaim := { program := "ytfadaakogpbgfaa", sum := "a3ebec76258483301634d1b412d542b0c1ab61ec1969240359f53af9c4319458", func := "ceilidh/ceilidhlaw13.LinkMany", spec := "linkMany", unfollowed := true, recurses := true, apart := false }
def LinkManySaid : Prop := linkManyRow.holds Try.pinned (OpenSpec.ofChange linkManySpec)

/-- ITS FALSE NEIGHBOUR: 'it returns false'. Refute it at one input. -/
def linkManyWrong : ChangeSpec := { name := "linkMany", fn := fun _ => fun
  | [d1, d2] => { results := [.lit (.bool false)], args := [d1, d2] }
  | _ => none }
def LinkManyWrongFalsely : Prop := linkManyRow.holds Try.pinned (OpenSpec.ofChange linkManyWrong)

/-- 'ceilidhlaw13.LinkQuiet': WHATEVER THE INPUT: true; the input reads as it did. -/
def linkQuietSpec : ChangeSpec := { name := "linkQuiet", fn := fun _ => fun
  | [d1, d2] => { results := [.lit (.bool true)], args := [d1, d2] }
  | _ => none }
def linkQuietRow : OpenClaim := { program := "ytfadaakogpbgfaa", sum := "a3ebec76258483301634d1b412d542b0c1ab61ec1969240359f53af9c4319458", func := "ceilidh/ceilidhlaw13.LinkQuiet", spec := "linkQuiet", unfollowed := true, recurses := true, apart := false }
def LinkQuietSaid : Prop := linkQuietRow.holds Try.pinned (OpenSpec.ofChange linkQuietSpec)

/-- ITS FALSE NEIGHBOUR: 'it returns false'. Refute it at one input. -/
def linkQuietWrong : ChangeSpec := { name := "linkQuiet", fn := fun _ => fun
  | [d1, d2] => { results := [.lit (.bool false)], args := [d1, d2] }
  | _ => none }
def LinkQuietWrongFalsely : Prop := linkQuietRow.holds Try.pinned (OpenSpec.ofChange linkQuietWrong)

/- THE SECOND FORM. 'bulk': how many values and letters a reading holds, each counted each time it is reached (what is shared counts as often as it is met; a slice's spare places count too). A statement '..UptoSaid' is the law's where the arguments, and the package variables that the reading takes, are together of bulk at most 1048576: NARROWER than '..Said'. Prove '..Said' where nothing that the law and all that it calls make is longer than what came in: it says more and counts as full. Else prove '..UptoSaid'. A law counts once. -/
mutual
def uptoBulk {H : Type} : DataW H → Nat
  | .lit (.string bytes) => bytes.length + 1
  | .lit _ => 1
  | .nil => 1
  | .ptr d => uptoBulk d + 1
  | .slice elems spare => uptoBulkAll elems + uptoBulkAll spare + 1
  | .agg parts => uptoBulkAll parts + 1
  | .iface _ d => uptoBulk d + 1
  | .map entries => uptoBulkEntries entries + 1
  | .held _ => 1
def uptoBulkAll {H : Type} : List (DataW H) → Nat
  | [] => 0
  | d :: r => uptoBulk d + uptoBulkAll r
def uptoBulkEntries {H : Type} : List (Lit × DataW H) → Nat
  | [] => 0
  | x :: r => uptoBulkEntry x + uptoBulkEntries r
def uptoBulkEntry {H : Type} : Lit × DataW H → Nat
  | (.string bytes, d) => bytes.length + uptoBulk d + 1
  | (_, d) => uptoBulk d + 1
 end
def uptoSmall : (H : Type) → List (DataW H) → Bool := fun _ ds => decide (uptoBulkAll ds ≤ 1048576)
def OpenSpec.upto (s : _root_.Go.ChangeSpec) : _root_.Go.OpenSpec := { _root_.Go.OpenSpec.ofChange s with cond := some uptoSmall }

/-- 'ceilidhlaw13.LinkPlays', WHERE WHAT IT READS IS OF BULK AT MOST 1048576: true; the input reads as it did. -/
def linkPlaysUptoRow : OpenClaim := { program := "ytfadaakogpbgfaa", sum := "a3ebec76258483301634d1b412d542b0c1ab61ec1969240359f53af9c4319458", func := "ceilidh/ceilidhlaw13.LinkPlays", spec := "linkPlays", unfollowed := true, recurses := true, apart := false, narrowed := true }
def LinkPlaysUptoSaid : Prop := linkPlaysUptoRow.holds Try.pinned (OpenSpec.upto linkPlaysSpec)

/-- 'ceilidhlaw13.LinkTwo', WHERE WHAT IT READS IS OF BULK AT MOST 1048576: true; the input reads as it did. -/
def linkTwoUptoRow : OpenClaim := { program := "ytfadaakogpbgfaa", sum := "a3ebec76258483301634d1b412d542b0c1ab61ec1969240359f53af9c4319458", func := "ceilidh/ceilidhlaw13.LinkTwo", spec := "linkTwo", unfollowed := true, recurses := true, apart := false, narrowed := true }
def LinkTwoUptoSaid : Prop := linkTwoUptoRow.holds Try.pinned (OpenSpec.upto linkTwoSpec)

/-- 'ceilidhlaw13.LinkMany', WHERE WHAT IT READS IS OF BULK AT MOST 1048576: true; the input reads as it did. -/
def linkManyUptoRow : OpenClaim := { program := "ytfadaakogpbgfaa", sum := "a3ebec76258483301634d1b412d542b0c1ab61ec1969240359f53af9c4319458", func := "ceilidh/ceilidhlaw13.LinkMany", spec := "linkMany", unfollowed := true, recurses := true, apart := false, narrowed := true }
def LinkManyUptoSaid : Prop := linkManyUptoRow.holds Try.pinned (OpenSpec.upto linkManySpec)

/-- 'ceilidhlaw13.LinkQuiet', WHERE WHAT IT READS IS OF BULK AT MOST 1048576: true; the input reads as it did. -/
def linkQuietUptoRow : OpenClaim := { program := "ytfadaakogpbgfaa", sum := "a3ebec76258483301634d1b412d542b0c1ab61ec1969240359f53af9c4319458", func := "ceilidh/ceilidhlaw13.LinkQuiet", spec := "linkQuiet", unfollowed := true, recurses := true, apart := false, narrowed := true }
def LinkQuietUptoSaid : Prop := linkQuietUptoRow.holds Try.pinned (OpenSpec.upto linkQuietSpec)

end Rows
end Go.Proofs.Ytfadaakogpbgfaa
