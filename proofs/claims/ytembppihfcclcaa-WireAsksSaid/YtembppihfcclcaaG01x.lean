/-
  Entry: an entry as a row of cells; which events and inputs may be. Entry: which inputs may be; May. Entry: May. Entry: slices.Equal of events; Same. Entry: two rows of inputs compared; Same. Entry: a struct laid into a new block.
-/
import Derived.Test.YtembppihfcclcaaRows
import Derived.WalkKit
import Derived.ProofKit
import Derived.OpenShut
import Derived.Outline
import Derived.Deep.QuietTactic
import Derived.BigQuiet
import Derived.Deep.RegionWith
import Derived.Deep.Light
import Derived.Deep.MidRow
import Derived.Lib.Hide
import Derived.Lib.QuietBelow
import Derived.RegionTactic
import Derived.ChangeKeysEq
namespace Go.Proofs.Ytembppihfcclcaa
set_option linter.unusedVariables false
open Go.ChangeShapes Go.WideShapes Go.ChangeAt Go.RowKit

def inpV (I : Nat → Int) (k : Nat) : Value := .int (if k % 3 = 2 then .u8 else .i8) (I k)
def entF (fr : Int) (sv : Value) (I : Nat → Int) (k : Nat) : Value := if k = 0 then .int .i64 fr else if k = 1 then sv else inpV I (k - 2)
def entL (fr : Int) (sv : Value) (I : Nat → Int) : List Value := (List.range 26).map (entF fr sv I)
theorem entL_len (fr : Int) (sv : Value) (I : Nat → Int) : (entL fr sv I).length = 26 := by unfold entL; rw [List.length_map, List.length_range]
theorem entL_get (fr : Int) (sv : Value) (I : Nat → Int) (k : Nat) (hk : k < 26) : (entL fr sv I)[k]? = some (entF fr sv I k) := by
  unfold entL; rw [List.getElem?_map, List.getElem?_range hk]; rfl
theorem entF_one (fr : Int) (a : Option Addr) (n c : Nat) (I : Nat → Int) (k : Nat) : (entF fr (.slice a n c) I k).oneCell' = true := by
  unfold entF inpV
  split
  · rfl
  · split <;> rfl
theorem entL_one (fr : Int) (a : Option Addr) (n c : Nat) (I : Nat → Int) : (entL fr (.slice a n c) I).toArray.all (·.oneCell') = true := all_oneCell_toArray (by
  unfold entL; intro x hx; rw [List.mem_map] at hx; obtain ⟨k, -, rfl⟩ := hx; exact entF_one _ _ _ _ _ _)
theorem size_ent (fr : Int) (sv : Value) (I : Nat → Int) : (Try.prog.info? 37).map (·.size) = some (entL fr sv I).length := by rw [entL_len]; kernel_rfl
theorem block_of_cell {w : World} {b o : Nat} {v : Value} (h : w.cell? ⟨b, o, none⟩ = some v) : b < w.heap.size := by
  apply Classical.byContradiction
  intro hn
  have e : w.heap[b]? = none := by simp; omega
  simp [World.cell?, e] at h
/-- An entry in memory, from place o of block b on. -/
structure EntAt (w : World) (b o : Nat) (fr : Int) (sv : Value) (I : Nat → Int) : Prop where
  cell : ∀ k, k < 26 → w.cell? ⟨b, o + k, none⟩ = some (entF fr sv I k)
section
variable {w w' : World} {b o : Nat} {fr : Int} {sv : Value} {I : Nat → Int}
theorem EntAt.block (a : EntAt w b o fr sv I) (k : w'.heap[b]? = w.heap[b]?) : EntAt w' b o fr sv I := ⟨fun j hj => (World.cell?_of_block k).trans (a.cell j hj)⟩
theorem EntAt.lt (a : EntAt w b o fr sv I) : b < w.heap.size := block_of_cell (a.cell 0 (by decide))
theorem EntAt.c0 (a : EntAt w b o fr sv I) : w.cell? ⟨b, o, none⟩ = some (.int .i64 fr) := a.cell 0 (by decide)
theorem EntAt.c1 (a : EntAt w b o fr sv I) : w.cell? ⟨b, o + 1, none⟩ = some sv := a.cell 1 (by decide)
theorem EntAt.z0 (a : EntAt w b 0 fr sv I) : w.cell? ⟨b, 0, none⟩ = some (.int .i64 fr) := a.cell 0 (by decide)
theorem EntAt.z1 (a : EntAt w b 0 fr sv I) : w.cell? ⟨b, 1, none⟩ = some sv := a.cell 1 (by decide)
theorem EntAt.range (a : EntAt w b o fr sv I) : w.rangeAt b o (entL fr sv I) := by
  intro j x hx
  have hj : j < 26 := by have := (List.getElem?_eq_some_iff.1 hx).1; rw [entL_len] at this; exact this
  rw [entL_get _ _ _ _ hj] at hx
  rw [a.cell j hj]; exact hx
end
theorem entAt_new (fr : Int) (sv : Value) (I : Nat → Int) (T : TypeId) (w : World) : EntAt (w.alloc (Obj.cells (entL fr sv I).toArray T)) w.heap.size 0 fr sv I := by
  constructor
  intro k hk
  rw [World.cell?_alloc_new, Nat.zero_add, List.getElem?_toArray, entL_get _ _ _ _ hk]
/-- The events of an entry: n of them, from place o of block b on; event i: kind, slot, number, peer. -/
structure EvsAt (w : World) (b o n : Nat) (E : Nat → Nat → Int) : Prop where
  k : ∀ i, i < n → w.cell? ⟨b, o + i * 4, none⟩ = some (.int .i64 (E i 0))
  s : ∀ i, i < n → w.cell? ⟨b, o + i * 4 + 1, none⟩ = some (.int .i64 (E i 1))
  g : ∀ i, i < n → w.cell? ⟨b, o + i * 4 + 2, none⟩ = some (.int .i64 (E i 2))
  p : ∀ i, i < n → w.cell? ⟨b, o + i * 4 + 3, none⟩ = some (.int .i64 (E i 3))
theorem EvsAt.block {w w' : World} {b o n : Nat} {E : Nat → Nat → Int} (a : EvsAt w b o n E) (h : w'.heap[b]? = w.heap[b]?) : EvsAt w' b o n E :=
  ⟨fun j hj => (World.cell?_of_block h).trans (a.k j hj), fun j hj => (World.cell?_of_block h).trans (a.s j hj), fun j hj => (World.cell?_of_block h).trans (a.g j hj), fun j hj => (World.cell?_of_block h).trans (a.p j hj)⟩
/-- The value of the events' slice, and what lies there. -/
def EvsV (w : World) (sv : Value) (n : Nat) (E : Nat → Nat → Int) : Prop :=
  ∃ a cap, sv = .slice a n cap ∧ n ≤ cap ∧ cap ≤ maxLen ∧ (0 < n → ∃ b o, a = some ⟨b, o, none⟩ ∧ b < w.heap.size ∧ EvsAt w b o n E)
theorem EvsV.below {w w' : World} {sv : Value} {n : Nat} {E : Nat → Nat → Int} {B : Nat} (h : EvsV w sv n E) (hb : Below B w w') (hs : w.heap.size ≤ B) : EvsV w' sv n E := by
  obtain ⟨a, cap, rfl, h1, h2, h3⟩ := h
  refine ⟨a, cap, rfl, h1, h2, fun hn => ?_⟩
  obtain ⟨b, o, rfl, hlt, he⟩ := h3 hn
  have := hb.size
  exact ⟨b, o, rfl, by omega, he.block (hb.block b (by omega))⟩

def mayEvB (k s g p : Int) : Bool := (decide (k = 1) || decide (k = 2)) && (decide (0 ≤ s) && (decide (s < 8) && (decide (1 ≤ g) && (decide (g ≤ 60000) && (decide (0 ≤ p) && decide (p < 12))))))
theorem mayEv_iff (k s g p : Int) : mayEvB k s g p = true ↔ (k = 1 ∨ k = 2) ∧ 0 ≤ s ∧ s < 8 ∧ 1 ≤ g ∧ g ≤ 60000 ∧ 0 ≤ p ∧ p < 12 := by
  unfold mayEvB
  simp only [Bool.and_eq_true, Bool.or_eq_true, decide_eq_true_eq]
theorem mayEv_any (k s g p : Int) (w : World) :
    Calls Try.prog 65 #[.agg #[.int .i64 k, .int .i64 s, .int .i64 g, .int .i64 p]] w fun e w' => e = .returned (.bool (mayEvB k s g p)) ∧ Below w.heap.size w w' := by
  unfold mayEvB
  by_cases h0 : k = 1
  · subst h0
    rcases (Decidable.em (0 ≤ s)).symm with h2 | h2
    · have d2 := decide_eq_false h2
      simp only [d2, Bool.false_and, Bool.and_false]
      go_enter Try.func65, Try.ntmps65
      go_wp2
      go_ret
      exact ⟨by simp, (Below.refl _ w).alloc (Nat.le_refl _) _⟩
    have d2 := decide_eq_true h2
    rcases (Decidable.em (s < 8)).symm with h3 | h3
    · have d3 := decide_eq_false h3
      simp only [d3, Bool.false_and, Bool.and_false]
      go_enter Try.func65, Try.ntmps65
      go_wp2
      go_ret
      exact ⟨by simp, (Below.refl _ w).alloc (Nat.le_refl _) _⟩
    have d3 := decide_eq_true h3
    rcases (Decidable.em (1 ≤ g)).symm with h4 | h4
    · have d4 := decide_eq_false h4
      simp only [d4, Bool.false_and, Bool.and_false]
      go_enter Try.func65, Try.ntmps65
      go_wp2
      go_ret
      exact ⟨by simp, (Below.refl _ w).alloc (Nat.le_refl _) _⟩
    have d4 := decide_eq_true h4
    rcases (Decidable.em (g ≤ 60000)).symm with h5 | h5
    · have d5 := decide_eq_false h5
      simp only [d5, Bool.false_and, Bool.and_false]
      go_enter Try.func65, Try.ntmps65
      go_wp2
      go_ret
      exact ⟨by simp, (Below.refl _ w).alloc (Nat.le_refl _) _⟩
    have d5 := decide_eq_true h5
    rcases (Decidable.em (0 ≤ p)).symm with h6 | h6
    · have d6 := decide_eq_false h6
      simp only [d6, Bool.false_and, Bool.and_false]
      go_enter Try.func65, Try.ntmps65
      go_wp2
      go_ret
      exact ⟨by simp, (Below.refl _ w).alloc (Nat.le_refl _) _⟩
    have d6 := decide_eq_true h6
    rcases (Decidable.em (p < 12)).symm with h7 | h7
    · have d7 := decide_eq_false h7
      simp only [d7, Bool.and_false]
      go_enter Try.func65, Try.ntmps65
      go_wp2
      go_ret
      exact ⟨by simp, (Below.refl _ w).alloc (Nat.le_refl _) _⟩
    have d7 := decide_eq_true h7
    simp only [d2, d3, d4, d5, d6, d7]
    go_enter Try.func65, Try.ntmps65
    go_wp2
    go_ret
    exact ⟨by simp, (Below.refl _ w).alloc (Nat.le_refl _) _⟩
  · have d0 := decide_eq_false h0
    have b0 : (k == 1) = false := by simpa using h0
    by_cases h0' : k = 2
    · subst h0'
      rcases (Decidable.em (0 ≤ s)).symm with h2 | h2
      · have d2 := decide_eq_false h2
        simp only [d2, Bool.false_and, Bool.and_false]
        go_enter Try.func65, Try.ntmps65
        go_wp2
        go_ret
        exact ⟨by simp, (Below.refl _ w).alloc (Nat.le_refl _) _⟩
      have d2 := decide_eq_true h2
      rcases (Decidable.em (s < 8)).symm with h3 | h3
      · have d3 := decide_eq_false h3
        simp only [d3, Bool.false_and, Bool.and_false]
        go_enter Try.func65, Try.ntmps65
        go_wp2
        go_ret
        exact ⟨by simp, (Below.refl _ w).alloc (Nat.le_refl _) _⟩
      have d3 := decide_eq_true h3
      rcases (Decidable.em (1 ≤ g)).symm with h4 | h4
      · have d4 := decide_eq_false h4
        simp only [d4, Bool.false_and, Bool.and_false]
        go_enter Try.func65, Try.ntmps65
        go_wp2
        go_ret
        exact ⟨by simp, (Below.refl _ w).alloc (Nat.le_refl _) _⟩
      have d4 := decide_eq_true h4
      rcases (Decidable.em (g ≤ 60000)).symm with h5 | h5
      · have d5 := decide_eq_false h5
        simp only [d5, Bool.false_and, Bool.and_false]
        go_enter Try.func65, Try.ntmps65
        go_wp2
        go_ret
        exact ⟨by simp, (Below.refl _ w).alloc (Nat.le_refl _) _⟩
      have d5 := decide_eq_true h5
      rcases (Decidable.em (0 ≤ p)).symm with h6 | h6
      · have d6 := decide_eq_false h6
        simp only [d6, Bool.false_and, Bool.and_false]
        go_enter Try.func65, Try.ntmps65
        go_wp2
        go_ret
        exact ⟨by simp, (Below.refl _ w).alloc (Nat.le_refl _) _⟩
      have d6 := decide_eq_true h6
      rcases (Decidable.em (p < 12)).symm with h7 | h7
      · have d7 := decide_eq_false h7
        simp only [d7, Bool.and_false]
        go_enter Try.func65, Try.ntmps65
        go_wp2
        go_ret
        exact ⟨by simp, (Below.refl _ w).alloc (Nat.le_refl _) _⟩
      have d7 := decide_eq_true h7
      simp only [d2, d3, d4, d5, d6, d7]
      go_enter Try.func65, Try.ntmps65
      go_wp2
      go_ret
      exact ⟨by simp, (Below.refl _ w).alloc (Nat.le_refl _) _⟩
    · have d1 := decide_eq_false h0'
      have b1 : (k == 2) = false := by simpa using h0'
      rw [d0, d1, Bool.or_false, Bool.false_and]
      go_enter Try.func65, Try.ntmps65
      go_wp2
      go_ret
      exact ⟨rfl, (Below.refl _ w).alloc (Nat.le_refl _) _⟩
end Go.Proofs.Ytembppihfcclcaa

namespace Go.Proofs.Ytembppihfcclcaa
set_option linter.unusedVariables false
open Go.ChangeShapes Go.WideShapes Go.ChangeAt Go.RowKit

def inpOk (x y : Int) : Bool := decide (-127 ≤ x) && decide (-127 ≤ y)
def inpAll (I : Nat → Int) : Nat → Bool
  | 0 => true
  | n + 1 => inpAll I n && inpOk (I (n * 3)) (I (n * 3 + 1))
theorem inpAll_mono (I : Nat → Int) (n m : Nat) (h : n ≤ m) (hb : inpAll I n = false) : inpAll I m = false := by
  induction m with
  | zero => have : n = 0 := by omega
            subst this; exact hb
  | succ m ih =>
    by_cases e : n = m + 1
    · subst e; exact hb
    · unfold inpAll; rw [ih (by omega), Bool.false_and]
theorem stickMay_any (x y z : Int) (w : World) :
    Calls Try.prog 31 #[.agg #[.int .i8 x, .int .i8 y, .int .u8 z]] w fun e w' => e = .returned (.bool (inpOk x y)) ∧ Below w.heap.size w w' := by
  unfold inpOk
  by_cases h1 : -127 ≤ x
  · have d1 := decide_eq_true h1
    simp only [d1, Bool.true_and]
    go_enter Try.func31, Try.ntmps31
    go_wp2
    go_ret
    exact ⟨by simp, (Below.refl _ w).alloc (Nat.le_refl _) _⟩
  · have d1 := decide_eq_false h1
    simp only [d1, Bool.false_and]
    go_enter Try.func31, Try.ntmps31
    go_wp2
    go_ret
    exact ⟨by simp, (Below.refl _ w).alloc (Nat.le_refl _) _⟩
theorem mayInput_any (x y z : Int) (hx : -128 ≤ x) (hy : -128 ≤ y) (w : World) :
    Calls Try.prog 32 #[.agg #[.int .i8 x, .int .i8 y, .int .u8 z]] w fun e w' => e = .returned (.bool (inpOk x y)) ∧ Below w.heap.size w w' := by
  have hok : inpOk x y = (x != -128 && y != -128) := by
    unfold inpOk
    have e1 : decide (-127 ≤ x) = (x != -128) := by rw [Bool.eq_iff_iff, decide_eq_true_iff, bne_iff_ne]; omega
    have e2 : decide (-127 ≤ y) = (y != -128) := by rw [Bool.eq_iff_iff, decide_eq_true_iff, bne_iff_ne]; omega
    rw [e1, e2]
  rw [hok]
  clear hok hx hy
  go_enter Try.func32, Try.ntmps32
  go_wp2
  all_goals (go_ret; exact ⟨by simp [*], (Below.refl _ w).alloc (Nat.le_refl _) _⟩)
theorem mayCl_any (x y z : Int) (w : World) :
    Calls Try.prog 66 #[.agg #[.int .i8 x, .int .i8 y, .int .u8 z]] w fun e w' => e = .returned (.bool (!inpOk x y)) ∧ Below w.heap.size w w' := by
  go_enter Try.func66, Try.ntmps66
  go_wp2_with fail
  refine (stickMay_any x y z _).mono ?_
  rintro e w2 ⟨rfl, hb⟩
  have HB := Lib.hid (((Below.refl w.heap.size w).alloc (Nat.le_refl _) (Obj.cells #[.int .i8 x, .int .i8 y, .int .u8 z] 34)).trans (hb.mono (by simp)))
  clear hb
  go_wp2_with fail
  go_ret
  exact ⟨rfl, HB.out⟩
/-- Inputs in memory: n of them from place o of block b on. -/
structure InpsAt (w : World) (b o n : Nat) (I : Nat → Int) : Prop where
  x : ∀ i, i < n → w.cell? ⟨b, o + i * 3, none⟩ = some (.int .i8 (I (i * 3)))
  y : ∀ i, i < n → w.cell? ⟨b, o + i * 3 + 1, none⟩ = some (.int .i8 (I (i * 3 + 1)))
  z : ∀ i, i < n → w.cell? ⟨b, o + i * 3 + 2, none⟩ = some (.int .u8 (I (i * 3 + 2)))
theorem InpsAt.block {w w' : World} {b o n : Nat} {I : Nat → Int} (a : InpsAt w b o n I) (h : w'.heap[b]? = w.heap[b]?) : InpsAt w' b o n I :=
  ⟨fun j hj => (World.cell?_of_block h).trans (a.x j hj), fun j hj => (World.cell?_of_block h).trans (a.y j hj), fun j hj => (World.cell?_of_block h).trans (a.z j hj)⟩
theorem EntAt.inps {w : World} {b : Nat} {fr : Int} {sv : Value} {I : Nat → Int} (a : EntAt w b 0 fr sv I) : InpsAt w b 2 8 I := by
  constructor
  · intro i hi
    have h := a.cell (2 + i * 3) (by omega)
    rw [Nat.zero_add] at h
    rw [h]; unfold entF inpV
    rw [if_neg (by omega), if_neg (by omega), if_neg (by omega), show 2 + i * 3 - 2 = i * 3 by omega]
  · intro i hi
    have h := a.cell (2 + i * 3 + 1) (by omega)
    rw [Nat.zero_add] at h
    rw [h]; unfold entF inpV
    rw [if_neg (by omega), if_neg (by omega), if_neg (by omega), show 2 + i * 3 + 1 - 2 = i * 3 + 1 by omega]
  · intro i hi
    have h := a.cell (2 + i * 3 + 2) (by omega)
    rw [Nat.zero_add] at h
    rw [h]; unfold entF inpV
    rw [if_neg (by omega), if_neg (by omega), if_pos (by omega), show 2 + i * 3 + 2 - 2 = i * 3 + 2 by omega]
set_option maxHeartbeats 1000000 in
theorem idxInp (a : Option Addr) (n c : Nat) (hnm : n ≤ maxLen) (I : Nat → Int) (w : World) (ha : 0 < n → ∃ b o, a = some ⟨b, o, none⟩ ∧ b < w.heap.size ∧ InpsAt w b o n I) :
    Calls Try.prog 54 #[.slice a n c, .func (.func 66) #[] #[]] w fun e w' => (∃ r : Int, e = .returned (.int .i64 r) ∧ decide (0 ≤ r) = !inpAll I n) ∧ Below w.heap.size w w' := by
  unfold maxLen at hnm
  have HA := Lib.hid ha
  clear ha
  go_enter Try.func54, Try.ntmps54
  go_wp2_with fail
  go_loopw [8] (fun i wr => ∃ k : Nat, k ≤ n ∧ i = .int .i64 k ∧ inpAll I k = true ∧ Below w.heap.size w wr) (fun i _ => n - (intOf i).toNat)
  case atStart => exact ⟨0, by omega, rfl, rfl, Below.refl _ _⟩
  case round =>
    obtain ⟨k, hk, rfl, hnb, hB⟩ := hrel
    have HB := Lib.hid hB
    have HNB := Lib.hid hnb
    clear hnb
    by_cases hlt : k < n
    · obtain ⟨b, o, rfl, hbl, hin⟩ := HA.out (by omega)
      have hsr := hin.block (hB.block b hbl)
      have d0 := hsr.x k hlt
      have d1 := hsr.y k hlt
      have d2 := hsr.z k hlt
      have HN : Hid (inpAll I (k + 1) = (inpAll I k && inpOk (I (k * 3)) (I (k * 3 + 1)))) := Lib.hid rfl
      have HMono := Lib.hid (inpAll_mono I (k + 1) n (by omega))
      clear hsr hin hB
      generalize I (k * 3) = x at *
      generalize I (k * 3 + 1) = y at *
      generalize I (k * 3 + 2) = z at *
      go_wp2_with fail
      refine (mayCl_any x y z _).mono ?_
      rintro e w2 ⟨rfl, hb2⟩
      have HB2 := Lib.hid (HB.out.trans (hb2.mono HB.out.size))
      clear hb2
      cases hok : inpOk x y with
      | true =>
        have hrel : inpAll I (k + 1) = true := by rw [HN.out, HNB.out, hok]; rfl
        have HRel := Lib.hid hrel
        clear hok hrel
        go_wp2_with fail
        all_goals first | exact ⟨⟨k + 1, by omega, by go_num, HRel.out, HB2.out⟩, by simp [intOf]; omega⟩ | exact ⟨k + 1, by omega, by go_num, HRel.out, HB2.out⟩ | (simp [intOf]; omega) | go_roundw
      | false =>
        have hrel : inpAll I (k + 1) = false := by rw [HN.out, HNB.out, hok]; rfl
        have HRel := Lib.hid hrel
        clear hok hrel
        go_wp2_with fail
        go_ret
        exact ⟨⟨k, rfl, by rw [HMono.out HRel.out]; simp⟩, HB2.out⟩
    · obtain rfl : k = n := by omega
      go_wp2_with fail
      go_ret
      exact ⟨⟨-1, rfl, by rw [HNB.out]; rfl⟩, hB⟩
theorem contInp (a : Option Addr) (n c : Nat) (hnm : n ≤ maxLen) (I : Nat → Int) (w : World) (ha : 0 < n → ∃ b o, a = some ⟨b, o, none⟩ ∧ b < w.heap.size ∧ InpsAt w b o n I) :
    Calls Try.prog 29 #[.slice a n c, .func (.func 66) #[] #[]] w fun e w' => e = .returned (.bool (!inpAll I n)) ∧ Below w.heap.size w w' := by
  have HA := Lib.hid ha
  clear ha
  go_enter Try.func29, Try.ntmps29
  go_wp2_with fail
  refine (idxInp a n c hnm I _ HA.out).mono ?_
  rintro e w2 ⟨⟨r, rfl, hr⟩, hF⟩
  have HR := Lib.hid hr
  have HF := Lib.hid hF
  clear hr hF
  go_wp2_with fail
  go_ret
  exact ⟨by rw [← HR.out]; rfl, HF.out⟩
/-- The order of two events, one behind the other. -/
def wrongEv (k s k' s' : Int) : Bool := decide (k < k') || (decide (k = k') && decide (s' ≤ s))
/-- The first n events may be, one behind the other. -/
def evsOk (E : Nat → Nat → Int) : Nat → Bool
  | 0 => true
  | n + 1 => evsOk E n && (mayEvB (E n 0) (E n 1) (E n 2) (E n 3) && (n == 0 || !wrongEv (E (n - 1) 0) (E (n - 1) 1) (E n 0) (E n 1)))
theorem evsOk_mono (E : Nat → Nat → Int) (n m : Nat) (h : n ≤ m) (hb : evsOk E n = false) : evsOk E m = false := by
  induction m with
  | zero => have : n = 0 := by omega
            subst this; exact hb
  | succ m ih =>
    by_cases e : n = m + 1
    · subst e; exact hb
    · unfold evsOk; rw [ih (by omega), Bool.false_and]
def mayE (fr : Int) (n : Nat) (E : Nat → Nat → Int) (I : Nat → Int) : Bool := decide (0 ≤ fr) && (decide (fr < 1048576) && (evsOk E n && inpAll I 8))
end Go.Proofs.Ytembppihfcclcaa

namespace Go.Proofs.Ytembppihfcclcaa
set_option linter.unusedVariables false
open Go.ChangeShapes Go.WideShapes Go.ChangeAt Go.RowKit

set_option maxHeartbeats 2000000 in
theorem may_any (fr : Int) (sv : Value) (n : Nat) (E : Nat → Nat → Int) (I : Nat → Int) (w : World) (hsv : EvsV w sv n E) :
    Calls Try.prog 53 #[.agg (entL fr sv I).toArray] w fun e w' => e = .returned (.bool (mayE fr n E I)) ∧ Below w.heap.size w w' := by
  unfold mayE
  obtain ⟨a, cap, rfl, hnc, hcm, hev⟩ := hsv
  unfold maxLen at hcm
  have hA := entAt_new fr (.slice a n cap) I 37 w
  have hB := (Below.refl w.heap.size w).alloc (Nat.le_refl _) (Obj.cells (entL fr (.slice a n cap) I).toArray 37)
  have c0 := hA.z0
  by_cases h1 : fr < 0
  · have d1 : decide (0 ≤ fr) = false := decide_eq_false (by omega)
    simp only [d1, Bool.false_and]
    go_enter Try.func53, Try.ntmps53
    go_wp2_with fail
    go_ret
    exact ⟨rfl, hB⟩
  have d1 : decide (0 ≤ fr) = true := decide_eq_true (by omega)
  by_cases h2 : 1048576 ≤ fr
  · have d2 : decide (fr < 1048576) = false := decide_eq_false (by omega)
    simp only [d1, d2, Bool.false_and, Bool.and_false]
    go_enter Try.func53, Try.ntmps53
    go_wp2_with fail
    go_ret
    exact ⟨rfl, hB⟩
  have d2 : decide (fr < 1048576) = true := decide_eq_true (by omega)
  simp only [d1, d2, Bool.true_and]
  have c1 := hA.z1
  have HEV := Lib.hid hev
  clear hev
  go_enter Try.func53, Try.ntmps53
  go_wp2_with fail
  clear d1 d2 c0 c1
  have HA := Lib.hid hA
  have HB := Lib.hid hB
  have hlt0 : w.heap.size < (w.alloc (Obj.cells (entL fr (.slice a n cap) I).toArray 37)).heap.size := hA.lt
  clear hA hB
  generalize w.alloc (Obj.cells (entL fr (.slice a n cap) I).toArray 37) = w1 at *
  go_loopw [17] (fun i wr => ∃ k : Nat, k ≤ n ∧ i = .int .i64 k ∧ evsOk E k = true ∧ EntAt wr w.heap.size 0 fr (.slice a n cap) I ∧ Below w.heap.size w wr) (fun i _ => n - (intOf i).toNat)
  case atStart => exact ⟨0, by omega, rfl, rfl, HA.out, HB.out⟩
  case round =>
    obtain ⟨k, hk, rfl, hok, hA, hB⟩ := hrel
    clear HA HB
    have HA := Lib.hid hA
    have HB := Lib.hid hB
    have HOK := Lib.hid hok
    clear hok
    by_cases hlt : k < n
    · obtain ⟨b, o, rfl, hbl, hin⟩ := HEV.out (by omega)
      have he := hin.block (hB.block b hbl)
      have d0 := he.k k hlt
      have d1 := he.s k hlt
      have d2 := he.g k hlt
      have d3 := he.p k hlt
      have HE := Lib.hid he
      have HN : Hid (evsOk E (k + 1) = (evsOk E k && (mayEvB (E k 0) (E k 1) (E k 2) (E k 3) && (k == 0 || !wrongEv (E (k - 1) 0) (E (k - 1) 1) (E k 0) (E k 1))))) := Lib.hid rfl
      have HMono := Lib.hid (evsOk_mono E (k + 1) n (by omega))
      clear he hin hB hA
      go_wp2_with fail
      refine (mayEv_any (E k 0) (E k 1) (E k 2) (E k 3) _).mono ?_
      rintro e w2 ⟨rfl, hb2⟩
      have q0 : w2.cell? ⟨wr.heap.size, 0, none⟩ = some (.int .i64 (E k 0)) := (hb2.cell (p := ⟨wr.heap.size, 0, none⟩) (by simp)).trans (by rw [World.cell?_alloc_new]; rfl)
      have q1 : w2.cell? ⟨wr.heap.size, 1, none⟩ = some (.int .i64 (E k 1)) := (hb2.cell (p := ⟨wr.heap.size, 1, none⟩) (by simp)).trans (by rw [World.cell?_alloc_new]; rfl)
      have HA2 := Lib.hid ((HA.out.block (Below.heap_alloc wr (Obj.cells #[.int .i64 (E k 0), .int .i64 (E k 1), .int .i64 (E k 2), .int .i64 (E k 3)] 43) w.heap.size HA.out.lt)).block (hb2.block _ (by have := HA.out.lt; simp; omega)))
      have HB2 := Lib.hid ((HB.out.alloc HB.out.size (Obj.cells #[.int .i64 (E k 0), .int .i64 (E k 1), .int .i64 (E k 2), .int .i64 (E k 3)] 43)).trans (hb2.mono (by have := HB.out.size; simp; omega)))
      have HE2 := Lib.hid ((HE.out.block (Below.heap_alloc wr (Obj.cells #[.int .i64 (E k 0), .int .i64 (E k 1), .int .i64 (E k 2), .int .i64 (E k 3)] 43) b (by have := HB.out.size; omega))).block (hb2.block _ (by have := HB.out.size; simp; omega)))
      have l2 : wr.heap.size < w2.heap.size := block_of_cell q0
      clear hb2 d0 d1 d2 d3 HA HB HE
      generalize hT : wr.heap.size = T at *
      clear hT wr
      cases hm : mayEvB (E k 0) (E k 1) (E k 2) (E k 3) with
      | false =>
        have hrel : evsOk E (k + 1) = false := by rw [HN.out, HOK.out, hm]; rfl
        have HRel := Lib.hid (HMono.out hrel)
        clear hm hrel HN
        go_wp2_with fail
        go_ret
        exact ⟨by rw [HRel.out]; rfl, HB2.out⟩
      | true =>
        have HM := Lib.hid hm
        clear hm
        rcases k with _ | m
        · have hrel : evsOk E (0 + 1) = true := by rw [HN.out, HOK.out, HM.out]; rfl
          have HRel := Lib.hid hrel
          clear hrel HN
          go_wp2_with fail
          all_goals first | exact ⟨⟨0 + 1, by omega, by go_num, HRel.out, HA2.out, HB2.out⟩, by simp [intOf]; omega⟩ | exact ⟨0 + 1, by omega, by go_num, HRel.out, HA2.out, HB2.out⟩ | (simp [intOf]; omega) | go_roundw
        · have f0 := HE2.out.k m (by omega)
          have f1 := HE2.out.s m (by omega)
          have f2 := HE2.out.g m (by omega)
          have f3 := HE2.out.p m (by omega)
          have c1 := HA2.out.z1
          have hmi : (m : Int) < (n : Int) := by omega
          have hmn : m < n := by omega
          have hnext : evsOk E (m + 1 + 1) = !wrongEv (E m 0) (E m 1) (E (m + 1) 0) (E (m + 1) 1) := by rw [HN.out, HOK.out, HM.out]; rfl
          have HNext := Lib.hid hnext
          clear hnext HN HM
          have mnz : ¬ ((m : Int) + 1 = 0) := by omega
          generalize E (m + 1) 0 = ek at *
          generalize E (m + 1) 1 = es at *
          generalize E m 0 = fk at *
          generalize E m 1 = fs at *
          by_cases h3 : fk < ek
          · have hrel : evsOk E (m + 1 + 1) = false := by rw [HNext.out]; unfold wrongEv; rw [decide_eq_true h3]; rfl
            have HRel := Lib.hid (HMono.out hrel)
            have d3 := decide_eq_true h3
            clear hrel HNext
            go_wp2_with fail
            go_ret
            exact ⟨by rw [HRel.out]; rfl, HB2.out.alloc HB2.out.size _⟩
          · have d3 := decide_eq_false h3
            by_cases h4 : fk = ek
            · subst h4
              have b4 : (fk == fk) = true := by simp
              by_cases h5 : es ≤ fs
              · have hrel : evsOk E (m + 1 + 1) = false := by rw [HNext.out]; unfold wrongEv; rw [d3, decide_eq_true rfl, decide_eq_true h5]; rfl
                have HRel := Lib.hid (HMono.out hrel)
                have d5 := decide_eq_true h5
                clear hrel HNext
                go_wp2_with fail
                go_ret
                exact ⟨by rw [HRel.out]; rfl, HB2.out.alloc HB2.out.size _⟩
              · have hrel : evsOk E (m + 1 + 1) = true := by rw [HNext.out]; unfold wrongEv; rw [d3, decide_eq_true rfl, decide_eq_false h5]; rfl
                have HRel := Lib.hid hrel
                have d5 := decide_eq_false h5
                clear hrel HNext
                go_wp2_with fail
                all_goals first | exact ⟨⟨m + 1 + 1, by omega, by go_num, HRel.out, HA2.out.block (Below.heap_alloc _ _ _ HA2.out.lt), HB2.out.alloc HB2.out.size _⟩, by simp [intOf]; omega⟩ | exact ⟨m + 1 + 1, by omega, by go_num, HRel.out, HA2.out.block (Below.heap_alloc _ _ _ HA2.out.lt), HB2.out.alloc HB2.out.size _⟩ | (simp [intOf]; omega) | go_roundw
            · have b4 : (fk == ek) = false := by simpa using h4
              have hrel : evsOk E (m + 1 + 1) = true := by rw [HNext.out]; unfold wrongEv; rw [d3, decide_eq_false h4]; rfl
              have HRel := Lib.hid hrel
              clear hrel HNext
              go_wp2_with fail
              all_goals first | exact ⟨⟨m + 1 + 1, by omega, by go_num, HRel.out, HA2.out.block (Below.heap_alloc _ _ _ HA2.out.lt), HB2.out.alloc HB2.out.size _⟩, by simp [intOf]; omega⟩ | exact ⟨m + 1 + 1, by omega, by go_num, HRel.out, HA2.out.block (Below.heap_alloc _ _ _ HA2.out.lt), HB2.out.alloc HB2.out.size _⟩ | (simp [intOf]; omega) | go_roundw
    · obtain rfl : k = n := by omega
      clear hB hA
      go_wp2_with fail
      refine (contInp (some ⟨w.heap.size, 2, none⟩) 8 8 (by decide) I _ (fun _ => ⟨_, _, rfl, HA.out.lt, HA.out.inps⟩)).mono ?_
      rintro e w2 ⟨rfl, hb2⟩
      have HB2 := Lib.hid (HB.out.trans (hb2.mono HB.out.size))
      clear hb2
      go_wp2_with fail
      go_ret
      exact ⟨by rw [HOK.out]; simp, HB2.out⟩
end Go.Proofs.Ytembppihfcclcaa

namespace Go.Proofs.Ytembppihfcclcaa
set_option linter.unusedVariables false
open Go.ChangeShapes Go.WideShapes Go.ChangeAt Go.RowKit

def evEq (E E' : Nat → Nat → Int) (k : Nat) : Bool := E k 0 == E' k 0 && (E k 1 == E' k 1 && (E k 2 == E' k 2 && E k 3 == E' k 3))
def evsEq (E E' : Nat → Nat → Int) : Nat → Bool
  | 0 => true
  | n + 1 => evsEq E E' n && evEq E E' n
theorem evsEq_mono (E E' : Nat → Nat → Int) (n m : Nat) (h : n ≤ m) (hb : evsEq E E' n = false) : evsEq E E' m = false := by
  induction m with
  | zero => have : n = 0 := by omega
            subst this; exact hb
  | succ m ih =>
    by_cases e : n = m + 1
    · subst e; exact hb
    · unfold evsEq; rw [ih (by omega), Bool.false_and]
theorem evsEq_iff (E E' : Nat → Nat → Int) : ∀ n, evsEq E E' n = true ↔ ∀ i, i < n → E i 0 = E' i 0 ∧ E i 1 = E' i 1 ∧ E i 2 = E' i 2 ∧ E i 3 = E' i 3 := by
  intro n
  induction n with
  | zero => exact ⟨fun _ i hi => by omega, fun _ => rfl⟩
  | succ n ih =>
    unfold evsEq evEq
    simp only [Bool.and_eq_true, beq_iff_eq, ih]
    constructor
    · rintro ⟨h1, h2⟩ i hi
      by_cases e : i = n
      · subst e; exact h2
      · exact h1 i (by omega)
    · intro h
      exact ⟨fun i hi => h i (by omega), h n (by omega)⟩
set_option maxHeartbeats 1000000 in
theorem eqEv_any (n n' : Nat) (E E' : Nat → Nat → Int) (sv sv' : Value) (w : World) (h : EvsV w sv n E) (h' : EvsV w sv' n' E') :
    Calls Try.prog 64 #[sv, sv'] w fun e w' => e = .returned (.bool (decide (n = n') && evsEq E E' n)) ∧ Below w.heap.size w w' := by
  obtain ⟨a, cap, rfl, hnc, hcm, hev⟩ := h
  obtain ⟨a', cap', rfl, hnc', hcm', hev'⟩ := h'
  unfold maxLen at hcm hcm'
  by_cases hnn : n = n'
  · subst hnn
    have bnn : ((n : Int) == (n : Int)) = true := by simp
    rw [decide_eq_true rfl, Bool.true_and]
    have HEV := Lib.hid hev
    have HEV' := Lib.hid hev'
    clear hev hev'
    go_enter Try.func64, Try.ntmps64
    go_wp2_with fail
    go_loopw [13] (fun i wr => ∃ k : Nat, k ≤ n ∧ i = .int .i64 k ∧ evsEq E E' k = true ∧ Below w.heap.size w wr) (fun i _ => n - (intOf i).toNat)
    case atStart => exact ⟨0, by omega, rfl, rfl, Below.refl _ _⟩
    case round =>
      obtain ⟨k, hk, rfl, hok, hB⟩ := hrel
      have HB := Lib.hid hB
      have HOK := Lib.hid hok
      clear hok
      by_cases hlt : k < n
      · obtain ⟨b, o, rfl, hbl, hin⟩ := HEV.out (by omega)
        obtain ⟨b', o', rfl, hbl', hin'⟩ := HEV'.out (by omega)
        have he := hin.block (hB.block b hbl)
        have he' := hin'.block (hB.block b' hbl')
        have d0 := cell_regrown (he.k k hlt)
        have d1 := cell_regrown (he.s k hlt)
        have d2 := cell_regrown (he.g k hlt)
        have d3 := cell_regrown (he.p k hlt)
        have d0' := cell_regrown (he'.k k hlt)
        have d1' := cell_regrown (he'.s k hlt)
        have d2' := cell_regrown (he'.g k hlt)
        have d3' := cell_regrown (he'.p k hlt)
        have hki : (k : Int) < (n : Int) := by omega
        have HN : Hid (evsEq E E' (k + 1) = (evsEq E E' k && (E k 0 == E' k 0 && (E k 1 == E' k 1 && (E k 2 == E' k 2 && E k 3 == E' k 3))))) := Lib.hid rfl
        have HMono := Lib.hid (evsEq_mono E E' (k + 1) n (by omega))
        clear hB he he' hin hin'
        generalize E k 0 = x0 at *
        generalize E k 1 = x1 at *
        generalize E k 2 = x2 at *
        generalize E k 3 = x3 at *
        generalize E' k 0 = y0 at *
        generalize E' k 1 = y1 at *
        generalize E' k 2 = y2 at *
        generalize E' k 3 = y3 at *
        rcases hb0 : (x0 == y0) with _ | _
        · have hrel : evsEq E E' (k + 1) = false := by rw [HN.out, hb0]; simp
          have HRel := Lib.hid (HMono.out hrel)
          clear hrel HN
          go_wp2_with fail
          refine wp_region_quiet_below (by kernel_rfl) (by kernel_rfl) ?_
          repeat (go_big_quiet_step (fail))
          refine wpQuiet_nil ?_
          intro w10 hw'
          obtain ⟨⟨nq, osq⟩, hw3⟩ := hw'
          have HW := Lib.hid (HB.out.trans ((below_regrown _ nq osq).mono HB.out.size))
          rw [← hw3] at HW
          clear hw3 d0 d1 d2 d3 d0' d1' d2' d3' HB
          go_wp2_with fail
          go_ret
          exact ⟨by rw [HRel.out]; rfl, HW.out⟩
        have e0 := eq_of_beq hb0
        subst e0
        rcases hb1 : (x1 == y1) with _ | _
        · have hrel : evsEq E E' (k + 1) = false := by rw [HN.out, hb1]; simp
          have HRel := Lib.hid (HMono.out hrel)
          clear hrel HN
          go_wp2_with fail
          refine wp_region_quiet_below (by kernel_rfl) (by kernel_rfl) ?_
          repeat (go_big_quiet_step (fail))
          refine wpQuiet_nil ?_
          intro w10 hw'
          obtain ⟨⟨nq, osq⟩, hw3⟩ := hw'
          have HW := Lib.hid (HB.out.trans ((below_regrown _ nq osq).mono HB.out.size))
          rw [← hw3] at HW
          clear hw3 d0 d1 d2 d3 d0' d1' d2' d3' HB
          go_wp2_with fail
          go_ret
          exact ⟨by rw [HRel.out]; rfl, HW.out⟩
        have e1 := eq_of_beq hb1
        subst e1
        rcases hb2 : (x2 == y2) with _ | _
        · have hrel : evsEq E E' (k + 1) = false := by rw [HN.out, hb2]; simp
          have HRel := Lib.hid (HMono.out hrel)
          clear hrel HN
          go_wp2_with fail
          refine wp_region_quiet_below (by kernel_rfl) (by kernel_rfl) ?_
          repeat (go_big_quiet_step (fail))
          refine wpQuiet_nil ?_
          intro w10 hw'
          obtain ⟨⟨nq, osq⟩, hw3⟩ := hw'
          have HW := Lib.hid (HB.out.trans ((below_regrown _ nq osq).mono HB.out.size))
          rw [← hw3] at HW
          clear hw3 d0 d1 d2 d3 d0' d1' d2' d3' HB
          go_wp2_with fail
          go_ret
          exact ⟨by rw [HRel.out]; rfl, HW.out⟩
        have e2 := eq_of_beq hb2
        subst e2
        rcases hb3 : (x3 == y3) with _ | _
        · have hrel : evsEq E E' (k + 1) = false := by rw [HN.out, hb3]; simp
          have HRel := Lib.hid (HMono.out hrel)
          clear hrel HN
          go_wp2_with fail
          refine wp_region_quiet_below (by kernel_rfl) (by kernel_rfl) ?_
          repeat (go_big_quiet_step (fail))
          refine wpQuiet_nil ?_
          intro w10 hw'
          obtain ⟨⟨nq, osq⟩, hw3⟩ := hw'
          have HW := Lib.hid (HB.out.trans ((below_regrown _ nq osq).mono HB.out.size))
          rw [← hw3] at HW
          clear hw3 d0 d1 d2 d3 d0' d1' d2' d3' HB
          go_wp2_with fail
          go_ret
          exact ⟨by rw [HRel.out]; rfl, HW.out⟩
        have e3 := eq_of_beq hb3
        subst e3
        have hrel : evsEq E E' (k + 1) = true := by rw [HN.out, HOK.out]; simp
        have HRel := Lib.hid hrel
        clear hrel HN
        go_wp2_with fail
        refine wp_region_quiet_below (by kernel_rfl) (by kernel_rfl) ?_
        repeat (go_big_quiet_step (fail))
        refine wpQuiet_nil ?_
        intro w10 hw'
        obtain ⟨⟨nq, osq⟩, hw3⟩ := hw'
        have HW := Lib.hid (HB.out.trans ((below_regrown _ nq osq).mono HB.out.size))
        rw [← hw3] at HW
        clear hw3 d0 d1 d2 d3 d0' d1' d2' d3' HB
        go_wp2_with fail
        all_goals first | exact ⟨⟨k + 1, by omega, by go_num, HRel.out, HW.out⟩, by simp [intOf]; omega⟩ | exact ⟨k + 1, by omega, by go_num, HRel.out, HW.out⟩ | (simp [intOf]; omega) | go_roundw
      · obtain rfl : k = n := by omega
        go_wp2_with fail
        go_ret
        exact ⟨by rw [HOK.out]; rfl, hB⟩
  · have bnn : ((n : Int) == (n' : Int)) = false := by rw [beq_eq_false_iff_ne]; omega
    rw [decide_eq_false hnn, Bool.false_and]
    clear hev hev'
    go_enter Try.func64, Try.ntmps64
    go_wp2_with fail
    go_ret
    exact ⟨rfl, Below.refl _ _⟩
end Go.Proofs.Ytembppihfcclcaa

namespace Go.Proofs.Ytembppihfcclcaa
set_option linter.unusedVariables false
open Go.ChangeShapes Go.WideShapes Go.ChangeAt Go.RowKit

def inpL (I : Nat → Int) : List Value := (List.range 24).map (inpV I)
theorem inpL_len (I : Nat → Int) : (inpL I).length = 24 := by unfold inpL; rw [List.length_map, List.length_range]
theorem inpL_get (I : Nat → Int) (k : Nat) (hk : k < 24) : (inpL I)[k]? = some (inpV I k) := by
  unfold inpL; rw [List.getElem?_map, List.getElem?_range hk]; rfl
theorem size_inps (I : Nat → Int) : (Try.prog.info? 35).map (·.size) = some (inpL I).length := by rw [inpL_len]; kernel_rfl
theorem EntAt.inpRange {w : World} {b o : Nat} {fr : Int} {sv : Value} {I : Nat → Int} (a : EntAt w b o fr sv I) : w.rangeAt b (o + 2) (inpL I) := by
  intro j x hx
  have hj : j < 24 := by have := (List.getElem?_eq_some_iff.1 hx).1; rw [inpL_len] at this; exact this
  rw [inpL_get _ _ hj] at hx
  rw [show o + 2 + j = o + (2 + j) by omega, a.cell (2 + j) (by omega), ← hx]
  unfold entF
  rw [if_neg (by omega), if_neg (by omega), show 2 + j - 2 = j by omega]
theorem EntAt.inpRange0 {w : World} {b : Nat} {fr : Int} {sv : Value} {I : Nat → Int} (a : EntAt w b 0 fr sv I) : w.rangeAt b 2 (inpL I) := a.inpRange
theorem wpList_load_g {P : Program} {ops : Array Oper} {rest : List Oper} {op : Oper} {a : Act} {w : World} {Q : Exit → Act → World → Prop} (hw : Region.wanted op (yielded ops a.tmps) = true) (ty : TypeId) (x : Operand) (ho : op.op = .load ty x)
    (b o : Nat) (hx : a.eval x = .pointer (some ⟨b, o, none⟩)) (cs : List Value) (d : TypeDesc) (hc : w.rangeAt b o cs)
    (hu : P.underlying ty = some d) (hd : d.isRow = true) (hi : (P.info? ty).map (·.size) = some cs.length)
    (h : wpList P ops Q rest (a.put op.dst (.agg cs.toArray)) w) : wpList P ops Q (op :: rest) a w :=
  wpList_step fun K hK => by rw [if_pos hw]; exact wp_load_mid ty x ho b o hx cs d hc hu hd hi (hK _ _ h)
theorem inpL_arr (I : Nat → Int) : (inpL I).toArray = #[.int .i8 (I 0), .int .i8 (I 1), .int .u8 (I 2), .int .i8 (I 3), .int .i8 (I 4), .int .u8 (I 5), .int .i8 (I 6), .int .i8 (I 7), .int .u8 (I 8), .int .i8 (I 9), .int .i8 (I 10), .int .u8 (I 11), .int .i8 (I 12), .int .i8 (I 13), .int .u8 (I 14), .int .i8 (I 15), .int .i8 (I 16), .int .u8 (I 17), .int .i8 (I 18), .int .i8 (I 19), .int .u8 (I 20), .int .i8 (I 21), .int .i8 (I 22), .int .u8 (I 23)] := rfl
theorem part_inp (I : Nat → Int) (i : Nat) (hi : i < 8) (w : World) : (part 34 (inpL I).toArray (i * 3)).run Try.prog w = .ok (.agg #[.int .i8 (I (i * 3)), .int .i8 (I (i * 3 + 1)), .int .u8 (I (i * 3 + 2))]) w := by
  rw [inpL_arr]
  rcases (by omega : i = 0 ∨ i = 1 ∨ i = 2 ∨ i = 3 ∨ i = 4 ∨ i = 5 ∨ i = 6 ∨ i = 7) with rfl | rfl | rfl | rfl | rfl | rfl | rfl | rfl
  all_goals (simp [part, go_sem]; try go_simp)
def inpEq (I I' : Nat → Int) (i : Nat) : Bool := I (i * 3) == I' (i * 3) && (I (i * 3 + 1) == I' (i * 3 + 1) && I (i * 3 + 2) == I' (i * 3 + 2))
theorem eq_inp (x y z x' y' z' : Int) (w : World) : (Op.equalIn 9999 34 (.agg #[.int .i8 x, .int .i8 y, .int .u8 z]) (.agg #[.int .i8 x', .int .i8 y', .int .u8 z'])).run Try.prog w = .ok (x == x' && (y == y' && z == z')) w := by
  rcases h1 : (x == x') with _ | _ <;> rcases h2 : (y == y') with _ | _ <;> rcases h3 : (z == z') with _ | _
  all_goals (go_simp; try simp [h1, h2, h3])
theorem cells_inp : Try.prog.cellsOf 34 = 3 := by kernel_rfl
theorem eqItems_inp (I I' : Nat → Int) : ∀ (is : List Nat) (w : World), (∀ i ∈ is, i < 8) → (Op.eqItems 9999 34 3 (inpL I).toArray (inpL I').toArray is).run Try.prog w = .ok (is.all (inpEq I I')) w
  | [], w, _ => by simp [Op.eqItems]
  | i :: is, w, h => by
    have hi := h i (List.mem_cons_self ..)
    simp only [Op.eqItems, Sem.run_bind, part_inp _ i hi, eq_inp, Result.andThen_ok, List.all_cons]
    have ih := eqItems_inp I I' is w (fun j hj => h j (List.mem_cons_of_mem _ hj))
    cases he : inpEq I I' i
    · unfold inpEq at he; rw [he]; rfl
    · unfold inpEq at he; rw [he]; simpa using ih
def inpsEq (I I' : Nat → Int) : Bool := (List.range 8).all (inpEq I I')
theorem eq_inps (I I' : Nat → Int) (w : World) : (Op.equalIn 10000 35 (.agg (inpL I).toArray) (.agg (inpL I').toArray)).run Try.prog w = .ok (inpsEq I I') w := by
  obtain ⟨i, hi⟩ := info_of_underlying Try.underlying34
  rw [run_equalIn_array w 9999 _ _ Try.underlying35 hi, cells_inp]
  exact eqItems_inp I I' _ w (fun i hi => List.mem_range.1 hi)
theorem inpsEq_iff (I I' : Nat → Int) : inpsEq I I' = true ↔ ∀ k, k < 24 → I k = I' k := by
  unfold inpsEq inpEq
  simp only [List.all_eq_true, List.mem_range, Bool.and_eq_true, beq_iff_eq]
  constructor
  · intro h k hk
    have := h (k / 3) (by omega)
    rcases (by omega : k % 3 = 0 ∨ k % 3 = 1 ∨ k % 3 = 2) with e | e | e
    · rw [show k = k / 3 * 3 by omega]; exact this.1
    · rw [show k = k / 3 * 3 + 1 by omega]; exact this.2.1
    · rw [show k = k / 3 * 3 + 2 by omega]; exact this.2.2
  · intro h i hi
    exact ⟨h _ (by omega), h _ (by omega), h _ (by omega)⟩
def sameB (fr : Int) (n : Nat) (E : Nat → Nat → Int) (I : Nat → Int) (fr' : Int) (n' : Nat) (E' : Nat → Nat → Int) (I' : Nat → Int) : Bool := fr == fr' && (inpsEq I I' && (decide (n = n') && evsEq E E' n))
set_option maxHeartbeats 1000000 in
theorem same_any (fr : Int) (sv : Value) (n : Nat) (E : Nat → Nat → Int) (I : Nat → Int) (fr' : Int) (sv' : Value) (n' : Nat) (E' : Nat → Nat → Int) (I' : Nat → Int) (w : World) (h : EvsV w sv n E) (h' : EvsV w sv' n' E') :
    Calls Try.prog 52 #[.agg (entL fr sv I).toArray, .agg (entL fr' sv' I').toArray] w fun e w' => e = .returned (.bool (sameB fr n E I fr' n' E' I')) ∧ Below w.heap.size w w' := by
  unfold sameB
  have hA1 := entAt_new fr sv I 37 w
  have hB1 := (Below.refl w.heap.size w).alloc (Nat.le_refl _) (Obj.cells (entL fr sv I).toArray 37)
  have hA2 := entAt_new fr' sv' I' 37 (w.alloc (Obj.cells (entL fr sv I).toArray 37))
  have hA1' := hA1.block (Below.heap_alloc _ (Obj.cells (entL fr' sv' I').toArray 37) _ hA1.lt)
  have hB2 := hB1.alloc hB1.size (Obj.cells (entL fr' sv' I').toArray 37)
  have hsz : (w.alloc (Obj.cells (entL fr sv I).toArray 37)).heap.size = w.heap.size + 1 := by simp
  rw [hsz] at hA2
  clear hA1 hB1 hsz
  have c0 := hA1'.z0
  have c1 := hA1'.z1
  have c0' := hA2.z0
  have c1' := hA2.z1
  cases hf : (fr == fr') with
  | false =>
    rw [Bool.false_and]
    go_enter Try.func52, Try.ntmps52
    go_wp2_with fail
    go_ret
    exact ⟨rfl, hB2⟩
  | true =>
    rw [Bool.true_and]
    have HQ := eq_inps I I'
    have HA := Lib.hid hA1'
    have HA' := Lib.hid hA2
    have HB := Lib.hid hB2
    have HV := Lib.hid h
    have HV' := Lib.hid h'
    clear hA1' hA2 hB2 h h'
    go_enter Try.func52, Try.ntmps52
    cases hi : inpsEq I I' with
    | false =>
      rw [hi] at HQ
      go_wp2_with (first | (refine wpList_load_g (by rfl) 35 _ rfl w.heap.size 2 rfl _ _ HA.out.inpRange0 Try.underlying35 rfl (size_inps _) ?_) | (refine wpList_load_g (by rfl) 35 _ rfl (w.heap.size + 1) 2 rfl _ _ HA'.out.inpRange0 Try.underlying35 rfl (size_inps _) ?_))
      go_ret
      exact ⟨rfl, HB.out⟩
    | true =>
      rw [hi] at HQ
      go_wp2_with (first | (refine wpList_load_g (by rfl) 35 _ rfl w.heap.size 2 rfl _ _ HA.out.inpRange0 Try.underlying35 rfl (size_inps _) ?_) | (refine wpList_load_g (by rfl) 35 _ rfl (w.heap.size + 1) 2 rfl _ _ HA'.out.inpRange0 Try.underlying35 rfl (size_inps _) ?_))
      refine (eqEv_any n n' E E' sv sv' _ (HV.out.below HB.out (Nat.le_refl _)) (HV'.out.below HB.out (Nat.le_refl _))).mono ?_
      rintro e w2 ⟨rfl, hb2⟩
      have HB2 := Lib.hid (HB.out.trans (hb2.mono HB.out.size))
      clear hb2
      go_wp2_with fail
      go_ret
      exact ⟨rfl, HB2.out⟩
end Go.Proofs.Ytembppihfcclcaa

namespace Go.Proofs.Ytembppihfcclcaa
set_option linter.unusedVariables false
open Go.ChangeShapes Go.WideShapes Go.ChangeAt Go.RowKit

def fill (c : Array Value) (o : Nat) : List Value → Array Value
  | [] => c
  | v :: r => fill (c.setIfInBounds o v) (o + 1) r
theorem setCells_alloc (T : TypeId) (w : World) : ∀ (vs : List Value) (c : Array Value) (o : Nat), (w.alloc (Obj.cells c T)).setCells w.heap.size o vs = w.alloc (Obj.cells (fill c o vs) T)
  | [], _, _ => rfl
  | v :: r, c, o => by
    rw [World.setCells, World.setCell_alloc_new]
    exact setCells_alloc T w r _ _
theorem fill_size : ∀ (vs : List Value) (c : Array Value) (o : Nat), (fill c o vs).size = c.size
  | [], _, _ => rfl
  | v :: r, c, o => by
    unfold fill
    rw [fill_size r, Array.size_setIfInBounds]
theorem fill_get : ∀ (vs : List Value) (c : Array Value) (o k : Nat), o + vs.length ≤ c.size → (fill c o vs)[k]? = if o ≤ k ∧ k < o + vs.length then vs[k - o]? else c[k]?
  | [], c, o, k, _ => by
    rw [if_neg (by simp only [List.length_nil]; omega)]; rfl
  | v :: r, c, o, k, h => by
    unfold fill
    simp only [List.length_cons] at h
    rw [fill_get r _ (o + 1) k (by rw [Array.size_setIfInBounds]; omega)]
    by_cases h1 : o + 1 ≤ k ∧ k < o + 1 + r.length
    · rw [if_pos h1, if_pos (by simp only [List.length_cons]; omega), show k - o = (k - (o + 1)) + 1 by omega, List.getElem?_cons_succ]
    · rw [if_neg h1, Array.getElem?_setIfInBounds]
      by_cases h2 : o = k
      · subst h2
        rw [if_pos rfl, if_pos (by omega), if_pos (by simp only [List.length_cons]; omega), Nat.sub_self]
        rfl
      · rw [if_neg h2, if_neg (by simp only [List.length_cons]; omega)]
theorem fill_all (c : Array Value) (vs : List Value) (h : vs.length = c.size) : fill c 0 vs = vs.toArray := by
  apply Array.ext_getElem?
  intro k
  have e : vs.toArray[k]? = vs[k]? := List.getElem?_toArray
  rw [fill_get vs c 0 k (by omega), e]
  by_cases hk : k < vs.length
  · rw [if_pos (by omega), Nat.sub_zero]
  · rw [if_neg (by omega), List.getElem?_eq_none (by omega)]
    exact Array.getElem?_eq_none (by omega)
/-- A value of many cells, laid into a block that was just made. -/
theorem run_store_new {P : Program} (c : Array Value) (vs : List Value) (T : TypeId) (w : World) (hl : vs.length = c.size) (h1 : vs.toArray.all (·.oneCell') = true) :
    (storeCells ⟨w.heap.size, 0, none⟩ vs).run P (w.alloc (Obj.cells c T)) = .ok () (w.alloc (Obj.cells vs.toArray T)) := by
  have := run_storeCells_cells (P := P) w.heap.size 0 vs 0 (w.alloc (Obj.cells c T)) (fun j hj => by
      rw [World.cell?_alloc_new, Array.getElem?_eq_getElem (by omega)]; rfl) (fun j hj => by rw [World.frozen?_alloc_new])
    (fun x hx => (Array.all_eq_true_iff_forall_mem.1 h1) x (by simpa using hx))
  rw [setCells_alloc, Nat.zero_add, fill_all c vs hl] at this
  simpa using this
theorem run_store_new' {P : Program} (c : Array Value) (vs : List Value) (T : TypeId) (w : World) (B : Nat) (hB : w.heap.size = B) (hl : vs.length = c.size) (h1 : vs.toArray.all (·.oneCell') = true) :
    (storeCells ⟨B, 0, none⟩ vs).run P (w.alloc (Obj.cells c T)) = .ok () (w.alloc (Obj.cells vs.toArray T)) := by subst hB; exact run_store_new c vs T w hl h1
/-- An entry laid into a new block. -/
theorem store_ent (fr : Int) (sv : Value) (I : Nat → Int) (h1 : (entL fr sv I).toArray.all (·.oneCell') = true) (w : World) (B : Nat) (hB : w.heap.size = B) :
    (storeCells ⟨B, 0, none⟩ (entL fr sv I)).run Try.prog (w.alloc (Obj.cells #[.int .i64 0, .slice none 0 0, .int .i8 0, .int .i8 0, .int .u8 0, .int .i8 0, .int .i8 0, .int .u8 0, .int .i8 0, .int .i8 0, .int .u8 0, .int .i8 0, .int .i8 0, .int .u8 0, .int .i8 0, .int .i8 0, .int .u8 0, .int .i8 0, .int .i8 0, .int .u8 0, .int .i8 0, .int .i8 0, .int .u8 0, .int .i8 0, .int .i8 0, .int .u8 0] 37)) = .ok () (w.alloc (Obj.cells (entL fr sv I).toArray 37)) := run_store_new' _ _ _ w B hB (by rw [entL_len]; rfl) h1
theorem EvsV.one {w : World} {sv : Value} {n : Nat} {E : Nat → Nat → Int} (h : EvsV w sv n E) (fr : Int) (I : Nat → Int) : (entL fr sv I).toArray.all (·.oneCell') = true := by
  obtain ⟨a, cap, rfl, -⟩ := h
  exact entL_one fr a n cap I
end Go.Proofs.Ytembppihfcclcaa
