/-
  Queue: a map from whole numbers to values of any kind, told as a function.
-/
import Derived.Test.YtabgooglfgioiaaRows
import Derived.WalkKit
import Derived.ProofKit
import Derived.OpenShut
import Derived.Outline
import Derived.Deep.QuietTactic
import Derived.BigQuiet
import Derived.Deep.RegionWith
import Derived.Deep.Light
import Derived.Lib.Hide
import Derived.Maps.OwnSet
namespace Go.Proofs.Ytabgooglfgioiaa
set_option linter.unusedVariables false
open Go.ChangeShapes Go.WideShapes Go.ChangeAt Go.RowKit

/-- An element of a map reads as itself. -/
def anyElem (v : Value) : Option (DataW Value × List MemPlace) := some (.held v, [])

/-- Block b is a map of at most n entries that holds g. -/
def MapAt (P : Program) (k : TypeId) (w : World) (b n : Nat) (g : Int → Option Value) : Prop :=
  ∃ D : DataW Value, w.ownsMap P k anyElem b n D ∧ ∀ x, (Lit.int .i64 x).wf = true → Maps.has D (.int .i64 x) = (g x).isSome ∧ ∀ v, g x = some v → ∀ z, D.atKey (.int .i64 x) z = .held v

def updM (g : Int → Option Value) (x : Int) (v : Option Value) : Int → Option Value := fun y => if y = x then v else g y

section
variable {P : Program} {k e t : TypeId} {w w' : World} {b n : Nat} {g : Int → Option Value}

theorem mapAt_made (P : Program) (k : TypeId) (w : World) : MapAt P k (w.alloc (.map #[] 0)) w.heap.size 0 (fun _ => none) :=
  ⟨.map [], World.ownsMap_made w P k anyElem, fun x _ => ⟨rfl, fun v h => by cases h⟩⟩

theorem MapAt.kept {row : Option Nat} (h : MapAt P k w b n g) (hg : w.grownBy w' row) (hne : some b ≠ row) : MapAt P k w' b n g := by
  obtain ⟨D, hD, hr⟩ := h; exact ⟨D, hD.kept hg hne, hr⟩
theorem MapAt.block (h : MapAt P k w b n g) (hg : w'.heap[b]? = w.heap[b]?) : MapAt P k w' b n g := by
  obtain ⟨D, ⟨es, clock, hb, r⟩, hr⟩ := h
  exact ⟨D, ⟨es, clock, hg.trans hb, r⟩, hr⟩
theorem MapAt.lt (h : MapAt P k w b n g) : b < w.heap.size := by
  obtain ⟨D, hD, hr⟩ := h; exact hD.lt

theorem MapAt.look (h : MapAt P k w b n g) (hk : P.underlying k = some (.int .i64)) (ht : P.underlying t = some (.map k e)) {z : Value} (hz : (zeroValue e).run P w = .ok z w) (x : Int) (hx : (Lit.int .i64 x).wf = true) :
    (Instr.lookup t (.map (some b)) (.int .i64 x) true).run P w = .ok (.tuple #[(g x).getD z, .bool (g x).isSome]) w := by
  obtain ⟨D, hD, hr⟩ := h
  obtain ⟨v, ps, hrun, hv⟩ := hD.look_ok (Maps.int_keyed hk) ht hz (zd := .held z) (zp := []) rfl (Maps.keyOf_int_mk hk hx)
  obtain ⟨h1, h2⟩ := hr x hx
  rw [hrun, h1]
  have hv' : DataW.held v = D.atKey (.int .i64 x) (.held z) := by
    unfold anyElem at hv
    injection hv with hv; injection hv
  cases hg : g x with
  | none =>
    rw [hg] at h1
    rw [Maps.atKey_of_not_has h1] at hv'
    injection hv' with e; rw [e]; rfl
  | some u =>
    rw [h2 u hg] at hv'
    injection hv' with e; rw [e]; rfl

theorem MapAt.store (h : MapAt P k w b n g) (hk : P.underlying k = some (.int .i64)) (ht : P.underlying t = some (.map k e)) (hn : n < maxLen) (x : Int) (hx : (Lit.int .i64 x).wf = true) (v : Value) :
    ∃ w', (Instr.mapUpdate t (.map (some b)) (.int .i64 x) v).run P w = .ok () w' ∧ MapAt P k w' b (n + 1) (updM g x (some v)) ∧ w.grownBy w' (some b) := by
  obtain ⟨D, hD, hr⟩ := h
  have hm := hD.isMap
  obtain ⟨w', hrun, hD', hg⟩ := hD.update (Maps.int_keyed hk) ht hn (Maps.keyOf_int_mk hk hx) (d := .held v) (ps := []) rfl
  refine ⟨w', hrun, ⟨_, hD', fun y hy => ?_⟩, hg⟩
  by_cases hxy : y = x
  · subst hxy
    refine ⟨?_, fun u hu z => ?_⟩
    · rw [Maps.has_put_same hm (by trivial)]; simp [updM]
    · simp only [updM, if_pos, Option.some.injEq] at hu
      rw [Maps.atKey_put_same hm (by trivial), hu]
  · have hne : Lit.int .i64 y ≠ Lit.int .i64 x := by intro h; injection h with _ h; exact hxy h
    obtain ⟨h1, h2⟩ := hr y hy
    refine ⟨?_, fun u hu z => ?_⟩
    · rw [Maps.has_put_other hne, h1]; simp [updM, hxy]
    · simp only [updM, if_neg hxy] at hu
      rw [Maps.atKey_put_other hne]; exact h2 u hu z

theorem MapAt.drop (h : MapAt P k w b n g) (hk : P.underlying k = some (.int .i64)) (ht : P.underlying t = some (.map k e)) (x : Int) (hx : (Lit.int .i64 x).wf = true) (ty : TypeId) :
    ∃ w', (Builtin.delete_ #[t, k] ty #[.map (some b), .int .i64 x]).run P w = .ok (.tuple #[]) w' ∧ MapAt P k w' b n (updM g x none) ∧ w.grownBy w' (some b) := by
  obtain ⟨D, hD, hr⟩ := h
  obtain ⟨w', hrun, hD', hg⟩ := hD.drop (Maps.int_keyed hk) ht (Maps.keyOf_int_mk hk hx) ty
  refine ⟨w', hrun, ⟨_, hD', fun y hy => ?_⟩, hg.grown⟩
  by_cases hxy : y = x
  · subst hxy
    refine ⟨?_, fun u hu z => ?_⟩
    · rw [Maps.has_del_same]; simp [updM]
    · simp [updM] at hu
  · have hne : Lit.int .i64 y ≠ Lit.int .i64 x := by intro h; injection h with _ h; exact hxy h
    obtain ⟨h1, h2⟩ := hr y hy
    refine ⟨?_, fun u hu z => ?_⟩
    · rw [Maps.has_del_other hne, h1]; simp [updM, hxy]
    · simp only [updM, if_neg hxy] at hu
      rw [Maps.atKey_del_other hne]; exact h2 u hu z
end
end Go.Proofs.Ytabgooglfgioiaa
