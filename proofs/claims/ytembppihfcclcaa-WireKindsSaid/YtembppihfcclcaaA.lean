/-
  Entry: an entry as a row of cells; which events and inputs may be.
-/
import Derived.Test.YtembppihfcclcaaRows
import Derived.WalkKit
import Derived.ProofKit
import Derived.OpenShut
import Derived.Outline
import Derived.Deep.QuietTactic
import Derived.BigQuiet
import Derived.Deep.RegionWith
import Derived.Deep.Light
import Derived.Deep.MidRow
import Derived.Lib.Hide
import Derived.Lib.QuietBelow
import Derived.RegionTactic
namespace Go.Proofs.Ytembppihfcclcaa
set_option linter.unusedVariables false
open Go.ChangeShapes Go.WideShapes Go.ChangeAt Go.RowKit

def inpV (I : Nat → Int) (k : Nat) : Value := .int (if k % 3 = 2 then .u8 else .i8) (I k)
def entF (fr : Int) (sv : Value) (I : Nat → Int) (k : Nat) : Value := if k = 0 then .int .i64 fr else if k = 1 then sv else inpV I (k - 2)
def entL (fr : Int) (sv : Value) (I : Nat → Int) : List Value := (List.range 26).map (entF fr sv I)
theorem entL_len (fr : Int) (sv : Value) (I : Nat → Int) : (entL fr sv I).length = 26 := by unfold entL; rw [List.length_map, List.length_range]
theorem entL_get (fr : Int) (sv : Value) (I : Nat → Int) (k : Nat) (hk : k < 26) : (entL fr sv I)[k]? = some (entF fr sv I k) := by
  unfold entL; rw [List.getElem?_map, List.getElem?_range hk]; rfl
theorem entF_one (fr : Int) (a : Option Addr) (n c : Nat) (I : Nat → Int) (k : Nat) : (entF fr (.slice a n c) I k).oneCell' = true := by
  unfold entF inpV
  split
  · rfl
  · split <;> rfl
theorem entL_one (fr : Int) (a : Option Addr) (n c : Nat) (I : Nat → Int) : (entL fr (.slice a n c) I).toArray.all (·.oneCell') = true := all_oneCell_toArray (by
  unfold entL; intro x hx; rw [List.mem_map] at hx; obtain ⟨k, -, rfl⟩ := hx; exact entF_one _ _ _ _ _ _)
theorem size_ent (fr : Int) (sv : Value) (I : Nat → Int) : (Try.prog.info? 37).map (·.size) = some (entL fr sv I).length := by rw [entL_len]; kernel_rfl
theorem block_of_cell {w : World} {b o : Nat} {v : Value} (h : w.cell? ⟨b, o, none⟩ = some v) : b < w.heap.size := by
  apply Classical.byContradiction
  intro hn
  have e : w.heap[b]? = none := by simp; omega
  simp [World.cell?, e] at h
/-- An entry in memory, from place o of block b on. -/
structure EntAt (w : World) (b o : Nat) (fr : Int) (sv : Value) (I : Nat → Int) : Prop where
  cell : ∀ k, k < 26 → w.cell? ⟨b, o + k, none⟩ = some (entF fr sv I k)
section
variable {w w' : World} {b o : Nat} {fr : Int} {sv : Value} {I : Nat → Int}
theorem EntAt.block (a : EntAt w b o fr sv I) (k : w'.heap[b]? = w.heap[b]?) : EntAt w' b o fr sv I := ⟨fun j hj => (World.cell?_of_block k).trans (a.cell j hj)⟩
theorem EntAt.lt (a : EntAt w b o fr sv I) : b < w.heap.size := block_of_cell (a.cell 0 (by decide))
theorem EntAt.c0 (a : EntAt w b o fr sv I) : w.cell? ⟨b, o, none⟩ = some (.int .i64 fr) := a.cell 0 (by decide)
theorem EntAt.c1 (a : EntAt w b o fr sv I) : w.cell? ⟨b, o + 1, none⟩ = some sv := a.cell 1 (by decide)
theorem EntAt.z0 (a : EntAt w b 0 fr sv I) : w.cell? ⟨b, 0, none⟩ = some (.int .i64 fr) := a.cell 0 (by decide)
theorem EntAt.z1 (a : EntAt w b 0 fr sv I) : w.cell? ⟨b, 1, none⟩ = some sv := a.cell 1 (by decide)
theorem EntAt.range (a : EntAt w b o fr sv I) : w.rangeAt b o (entL fr sv I) := by
  intro j x hx
  have hj : j < 26 := by have := (List.getElem?_eq_some_iff.1 hx).1; rw [entL_len] at this; exact this
  rw [entL_get _ _ _ _ hj] at hx
  rw [a.cell j hj]; exact hx
end
theorem entAt_new (fr : Int) (sv : Value) (I : Nat → Int) (T : TypeId) (w : World) : EntAt (w.alloc (Obj.cells (entL fr sv I).toArray T)) w.heap.size 0 fr sv I := by
  constructor
  intro k hk
  rw [World.cell?_alloc_new, Nat.zero_add, List.getElem?_toArray, entL_get _ _ _ _ hk]
/-- The events of an entry: n of them, from place o of block b on; event i: kind, slot, number, peer. -/
structure EvsAt (w : World) (b o n : Nat) (E : Nat → Nat → Int) : Prop where
  k : ∀ i, i < n → w.cell? ⟨b, o + i * 4, none⟩ = some (.int .i64 (E i 0))
  s : ∀ i, i < n → w.cell? ⟨b, o + i * 4 + 1, none⟩ = some (.int .i64 (E i 1))
  g : ∀ i, i < n → w.cell? ⟨b, o + i * 4 + 2, none⟩ = some (.int .i64 (E i 2))
  p : ∀ i, i < n → w.cell? ⟨b, o + i * 4 + 3, none⟩ = some (.int .i64 (E i 3))
theorem EvsAt.block {w w' : World} {b o n : Nat} {E : Nat → Nat → Int} (a : EvsAt w b o n E) (h : w'.heap[b]? = w.heap[b]?) : EvsAt w' b o n E :=
  ⟨fun j hj => (World.cell?_of_block h).trans (a.k j hj), fun j hj => (World.cell?_of_block h).trans (a.s j hj), fun j hj => (World.cell?_of_block h).trans (a.g j hj), fun j hj => (World.cell?_of_block h).trans (a.p j hj)⟩
/-- The value of the events' slice, and what lies there. -/
def EvsV (w : World) (sv : Value) (n : Nat) (E : Nat → Nat → Int) : Prop :=
  ∃ a cap, sv = .slice a n cap ∧ n ≤ cap ∧ cap ≤ maxLen ∧ (0 < n → ∃ b o, a = some ⟨b, o, none⟩ ∧ b < w.heap.size ∧ EvsAt w b o n E)
theorem EvsV.below {w w' : World} {sv : Value} {n : Nat} {E : Nat → Nat → Int} {B : Nat} (h : EvsV w sv n E) (hb : Below B w w') (hs : w.heap.size ≤ B) : EvsV w' sv n E := by
  obtain ⟨a, cap, rfl, h1, h2, h3⟩ := h
  refine ⟨a, cap, rfl, h1, h2, fun hn => ?_⟩
  obtain ⟨b, o, rfl, hlt, he⟩ := h3 hn
  have := hb.size
  exact ⟨b, o, rfl, by omega, he.block (hb.block b (by omega))⟩

def mayEvB (k s g p : Int) : Bool := (decide (k = 1) || decide (k = 2)) && (decide (0 ≤ s) && (decide (s < 8) && (decide (1 ≤ g) && (decide (g ≤ 60000) && (decide (0 ≤ p) && decide (p < 12))))))
theorem mayEv_iff (k s g p : Int) : mayEvB k s g p = true ↔ (k = 1 ∨ k = 2) ∧ 0 ≤ s ∧ s < 8 ∧ 1 ≤ g ∧ g ≤ 60000 ∧ 0 ≤ p ∧ p < 12 := by
  unfold mayEvB
  simp only [Bool.and_eq_true, Bool.or_eq_true, decide_eq_true_eq]
theorem mayEv_any (k s g p : Int) (w : World) :
    Calls Try.prog 65 #[.agg #[.int .i64 k, .int .i64 s, .int .i64 g, .int .i64 p]] w fun e w' => e = .returned (.bool (mayEvB k s g p)) ∧ Below w.heap.size w w' := by
  unfold mayEvB
  by_cases h0 : k = 1
  · subst h0
    rcases (Decidable.em (0 ≤ s)).symm with h2 | h2
    · have d2 := decide_eq_false h2
      simp only [d2, Bool.false_and, Bool.and_false]
      go_enter Try.func65, Try.ntmps65
      go_wp2
      go_ret
      exact ⟨by simp, (Below.refl _ w).alloc (Nat.le_refl _) _⟩
    have d2 := decide_eq_true h2
    rcases (Decidable.em (s < 8)).symm with h3 | h3
    · have d3 := decide_eq_false h3
      simp only [d3, Bool.false_and, Bool.and_false]
      go_enter Try.func65, Try.ntmps65
      go_wp2
      go_ret
      exact ⟨by simp, (Below.refl _ w).alloc (Nat.le_refl _) _⟩
    have d3 := decide_eq_true h3
    rcases (Decidable.em (1 ≤ g)).symm with h4 | h4
    · have d4 := decide_eq_false h4
      simp only [d4, Bool.false_and, Bool.and_false]
      go_enter Try.func65, Try.ntmps65
      go_wp2
      go_ret
      exact ⟨by simp, (Below.refl _ w).alloc (Nat.le_refl _) _⟩
    have d4 := decide_eq_true h4
    rcases (Decidable.em (g ≤ 60000)).symm with h5 | h5
    · have d5 := decide_eq_false h5
      simp only [d5, Bool.false_and, Bool.and_false]
      go_enter Try.func65, Try.ntmps65
      go_wp2
      go_ret
      exact ⟨by simp, (Below.refl _ w).alloc (Nat.le_refl _) _⟩
    have d5 := decide_eq_true h5
    rcases (Decidable.em (0 ≤ p)).symm with h6 | h6
    · have d6 := decide_eq_false h6
      simp only [d6, Bool.false_and, Bool.and_false]
      go_enter Try.func65, Try.ntmps65
      go_wp2
      go_ret
      exact ⟨by simp, (Below.refl _ w).alloc (Nat.le_refl _) _⟩
    have d6 := decide_eq_true h6
    rcases (Decidable.em (p < 12)).symm with h7 | h7
    · have d7 := decide_eq_false h7
      simp only [d7, Bool.and_false]
      go_enter Try.func65, Try.ntmps65
      go_wp2
      go_ret
      exact ⟨by simp, (Below.refl _ w).alloc (Nat.le_refl _) _⟩
    have d7 := decide_eq_true h7
    simp only [d2, d3, d4, d5, d6, d7]
    go_enter Try.func65, Try.ntmps65
    go_wp2
    go_ret
    exact ⟨by simp, (Below.refl _ w).alloc (Nat.le_refl _) _⟩
  · have d0 := decide_eq_false h0
    have b0 : (k == 1) = false := by simpa using h0
    by_cases h0' : k = 2
    · subst h0'
      rcases (Decidable.em (0 ≤ s)).symm with h2 | h2
      · have d2 := decide_eq_false h2
        simp only [d2, Bool.false_and, Bool.and_false]
        go_enter Try.func65, Try.ntmps65
        go_wp2
        go_ret
        exact ⟨by simp, (Below.refl _ w).alloc (Nat.le_refl _) _⟩
      have d2 := decide_eq_true h2
      rcases (Decidable.em (s < 8)).symm with h3 | h3
      · have d3 := decide_eq_false h3
        simp only [d3, Bool.false_and, Bool.and_false]
        go_enter Try.func65, Try.ntmps65
        go_wp2
        go_ret
        exact ⟨by simp, (Below.refl _ w).alloc (Nat.le_refl _) _⟩
      have d3 := decide_eq_true h3
      rcases (Decidable.em (1 ≤ g)).symm with h4 | h4
      · have d4 := decide_eq_false h4
        simp only [d4, Bool.false_and, Bool.and_false]
        go_enter Try.func65, Try.ntmps65
        go_wp2
        go_ret
        exact ⟨by simp, (Below.refl _ w).alloc (Nat.le_refl _) _⟩
      have d4 := decide_eq_true h4
      rcases (Decidable.em (g ≤ 60000)).symm with h5 | h5
      · have d5 := decide_eq_false h5
        simp only [d5, Bool.false_and, Bool.and_false]
        go_enter Try.func65, Try.ntmps65
        go_wp2
        go_ret
        exact ⟨by simp, (Below.refl _ w).alloc (Nat.le_refl _) _⟩
      have d5 := decide_eq_true h5
      rcases (Decidable.em (0 ≤ p)).symm with h6 | h6
      · have d6 := decide_eq_false h6
        simp only [d6, Bool.false_and, Bool.and_false]
        go_enter Try.func65, Try.ntmps65
        go_wp2
        go_ret
        exact ⟨by simp, (Below.refl _ w).alloc (Nat.le_refl _) _⟩
      have d6 := decide_eq_true h6
      rcases (Decidable.em (p < 12)).symm with h7 | h7
      · have d7 := decide_eq_false h7
        simp only [d7, Bool.and_false]
        go_enter Try.func65, Try.ntmps65
        go_wp2
        go_ret
        exact ⟨by simp, (Below.refl _ w).alloc (Nat.le_refl _) _⟩
      have d7 := decide_eq_true h7
      simp only [d2, d3, d4, d5, d6, d7]
      go_enter Try.func65, Try.ntmps65
      go_wp2
      go_ret
      exact ⟨by simp, (Below.refl _ w).alloc (Nat.le_refl _) _⟩
    · have d1 := decide_eq_false h0'
      have b1 : (k == 2) = false := by simpa using h0'
      rw [d0, d1, Bool.or_false, Bool.false_and]
      go_enter Try.func65, Try.ntmps65
      go_wp2
      go_ret
      exact ⟨rfl, (Below.refl _ w).alloc (Nat.le_refl _) _⟩
end Go.Proofs.Ytembppihfcclcaa
