/-
  Entry: which inputs may be; May.
-/
import Derived.Test.YtembppihfcclcaaA
namespace Go.Proofs.Ytembppihfcclcaa
set_option linter.unusedVariables false
open Go.ChangeShapes Go.WideShapes Go.ChangeAt Go.RowKit

def inpOk (x y : Int) : Bool := decide (-127 ≤ x) && decide (-127 ≤ y)
def inpAll (I : Nat → Int) : Nat → Bool
  | 0 => true
  | n + 1 => inpAll I n && inpOk (I (n * 3)) (I (n * 3 + 1))
theorem inpAll_mono (I : Nat → Int) (n m : Nat) (h : n ≤ m) (hb : inpAll I n = false) : inpAll I m = false := by
  induction m with
  | zero => have : n = 0 := by omega
            subst this; exact hb
  | succ m ih =>
    by_cases e : n = m + 1
    · subst e; exact hb
    · unfold inpAll; rw [ih (by omega), Bool.false_and]
theorem stickMay_any (x y z : Int) (w : World) :
    Calls Try.prog 31 #[.agg #[.int .i8 x, .int .i8 y, .int .u8 z]] w fun e w' => e = .returned (.bool (inpOk x y)) ∧ Below w.heap.size w w' := by
  unfold inpOk
  by_cases h1 : -127 ≤ x
  · have d1 := decide_eq_true h1
    simp only [d1, Bool.true_and]
    go_enter Try.func31, Try.ntmps31
    go_wp2
    go_ret
    exact ⟨by simp, (Below.refl _ w).alloc (Nat.le_refl _) _⟩
  · have d1 := decide_eq_false h1
    simp only [d1, Bool.false_and]
    go_enter Try.func31, Try.ntmps31
    go_wp2
    go_ret
    exact ⟨by simp, (Below.refl _ w).alloc (Nat.le_refl _) _⟩
theorem mayInput_any (x y z : Int) (hx : -128 ≤ x) (hy : -128 ≤ y) (w : World) :
    Calls Try.prog 32 #[.agg #[.int .i8 x, .int .i8 y, .int .u8 z]] w fun e w' => e = .returned (.bool (inpOk x y)) ∧ Below w.heap.size w w' := by
  have hok : inpOk x y = (x != -128 && y != -128) := by
    unfold inpOk
    have e1 : decide (-127 ≤ x) = (x != -128) := by rw [Bool.eq_iff_iff, decide_eq_true_iff, bne_iff_ne]; omega
    have e2 : decide (-127 ≤ y) = (y != -128) := by rw [Bool.eq_iff_iff, decide_eq_true_iff, bne_iff_ne]; omega
    rw [e1, e2]
  rw [hok]
  clear hok hx hy
  go_enter Try.func32, Try.ntmps32
  go_wp2
  all_goals (go_ret; exact ⟨by simp [*], (Below.refl _ w).alloc (Nat.le_refl _) _⟩)
theorem mayCl_any (x y z : Int) (w : World) :
    Calls Try.prog 66 #[.agg #[.int .i8 x, .int .i8 y, .int .u8 z]] w fun e w' => e = .returned (.bool (!inpOk x y)) ∧ Below w.heap.size w w' := by
  go_enter Try.func66, Try.ntmps66
  go_wp2_with fail
  refine (stickMay_any x y z _).mono ?_
  rintro e w2 ⟨rfl, hb⟩
  have HB := Lib.hid (((Below.refl w.heap.size w).alloc (Nat.le_refl _) (Obj.cells #[.int .i8 x, .int .i8 y, .int .u8 z] 34)).trans (hb.mono (by simp)))
  clear hb
  go_wp2_with fail
  go_ret
  exact ⟨rfl, HB.out⟩
/-- Inputs in memory: n of them from place o of block b on. -/
structure InpsAt (w : World) (b o n : Nat) (I : Nat → Int) : Prop where
  x : ∀ i, i < n → w.cell? ⟨b, o + i * 3, none⟩ = some (.int .i8 (I (i * 3)))
  y : ∀ i, i < n → w.cell? ⟨b, o + i * 3 + 1, none⟩ = some (.int .i8 (I (i * 3 + 1)))
  z : ∀ i, i < n → w.cell? ⟨b, o + i * 3 + 2, none⟩ = some (.int .u8 (I (i * 3 + 2)))
theorem InpsAt.block {w w' : World} {b o n : Nat} {I : Nat → Int} (a : InpsAt w b o n I) (h : w'.heap[b]? = w.heap[b]?) : InpsAt w' b o n I :=
  ⟨fun j hj => (World.cell?_of_block h).trans (a.x j hj), fun j hj => (World.cell?_of_block h).trans (a.y j hj), fun j hj => (World.cell?_of_block h).trans (a.z j hj)⟩
theorem EntAt.inps {w : World} {b : Nat} {fr : Int} {sv : Value} {I : Nat → Int} (a : EntAt w b 0 fr sv I) : InpsAt w b 2 8 I := by
  constructor
  · intro i hi
    have h := a.cell (2 + i * 3) (by omega)
    rw [Nat.zero_add] at h
    rw [h]; unfold entF inpV
    rw [if_neg (by omega), if_neg (by omega), if_neg (by omega), show 2 + i * 3 - 2 = i * 3 by omega]
  · intro i hi
    have h := a.cell (2 + i * 3 + 1) (by omega)
    rw [Nat.zero_add] at h
    rw [h]; unfold entF inpV
    rw [if_neg (by omega), if_neg (by omega), if_neg (by omega), show 2 + i * 3 + 1 - 2 = i * 3 + 1 by omega]
  · intro i hi
    have h := a.cell (2 + i * 3 + 2) (by omega)
    rw [Nat.zero_add] at h
    rw [h]; unfold entF inpV
    rw [if_neg (by omega), if_neg (by omega), if_pos (by omega), show 2 + i * 3 + 2 - 2 = i * 3 + 2 by omega]
set_option maxHeartbeats 1000000 in
theorem idxInp (a : Option Addr) (n c : Nat) (hnm : n ≤ maxLen) (I : Nat → Int) (w : World) (ha : 0 < n → ∃ b o, a = some ⟨b, o, none⟩ ∧ b < w.heap.size ∧ InpsAt w b o n I) :
    Calls Try.prog 54 #[.slice a n c, .func (.func 66) #[] #[]] w fun e w' => (∃ r : Int, e = .returned (.int .i64 r) ∧ decide (0 ≤ r) = !inpAll I n) ∧ Below w.heap.size w w' := by
  unfold maxLen at hnm
  have HA := Lib.hid ha
  clear ha
  go_enter Try.func54, Try.ntmps54
  go_wp2_with fail
  go_loopw [8] (fun i wr => ∃ k : Nat, k ≤ n ∧ i = .int .i64 k ∧ inpAll I k = true ∧ Below w.heap.size w wr) (fun i _ => n - (intOf i).toNat)
  case atStart => exact ⟨0, by omega, rfl, rfl, Below.refl _ _⟩
  case round =>
    obtain ⟨k, hk, rfl, hnb, hB⟩ := hrel
    have HB := Lib.hid hB
    have HNB := Lib.hid hnb
    clear hnb
    by_cases hlt : k < n
    · obtain ⟨b, o, rfl, hbl, hin⟩ := HA.out (by omega)
      have hsr := hin.block (hB.block b hbl)
      have d0 := hsr.x k hlt
      have d1 := hsr.y k hlt
      have d2 := hsr.z k hlt
      have HN : Hid (inpAll I (k + 1) = (inpAll I k && inpOk (I (k * 3)) (I (k * 3 + 1)))) := Lib.hid rfl
      have HMono := Lib.hid (inpAll_mono I (k + 1) n (by omega))
      clear hsr hin hB
      generalize I (k * 3) = x at *
      generalize I (k * 3 + 1) = y at *
      generalize I (k * 3 + 2) = z at *
      go_wp2_with fail
      refine (mayCl_any x y z _).mono ?_
      rintro e w2 ⟨rfl, hb2⟩
      have HB2 := Lib.hid (HB.out.trans (hb2.mono HB.out.size))
      clear hb2
      cases hok : inpOk x y with
      | true =>
        have hrel : inpAll I (k + 1) = true := by rw [HN.out, HNB.out, hok]; rfl
        have HRel := Lib.hid hrel
        clear hok hrel
        go_wp2_with fail
        all_goals first | exact ⟨⟨k + 1, by omega, by go_num, HRel.out, HB2.out⟩, by simp [intOf]; omega⟩ | exact ⟨k + 1, by omega, by go_num, HRel.out, HB2.out⟩ | (simp [intOf]; omega) | go_roundw
      | false =>
        have hrel : inpAll I (k + 1) = false := by rw [HN.out, HNB.out, hok]; rfl
        have HRel := Lib.hid hrel
        clear hok hrel
        go_wp2_with fail
        go_ret
        exact ⟨⟨k, rfl, by rw [HMono.out HRel.out]; simp⟩, HB2.out⟩
    · obtain rfl : k = n := by omega
      go_wp2_with fail
      go_ret
      exact ⟨⟨-1, rfl, by rw [HNB.out]; rfl⟩, hB⟩
theorem contInp (a : Option Addr) (n c : Nat) (hnm : n ≤ maxLen) (I : Nat → Int) (w : World) (ha : 0 < n → ∃ b o, a = some ⟨b, o, none⟩ ∧ b < w.heap.size ∧ InpsAt w b o n I) :
    Calls Try.prog 29 #[.slice a n c, .func (.func 66) #[] #[]] w fun e w' => e = .returned (.bool (!inpAll I n)) ∧ Below w.heap.size w w' := by
  have HA := Lib.hid ha
  clear ha
  go_enter Try.func29, Try.ntmps29
  go_wp2_with fail
  refine (idxInp a n c hnm I _ HA.out).mono ?_
  rintro e w2 ⟨⟨r, rfl, hr⟩, hF⟩
  have HR := Lib.hid hr
  have HF := Lib.hid hF
  clear hr hF
  go_wp2_with fail
  go_ret
  exact ⟨by rw [← HR.out]; rfl, HF.out⟩
/-- The order of two events, one behind the other. -/
def wrongEv (k s k' s' : Int) : Bool := decide (k < k') || (decide (k = k') && decide (s' ≤ s))
/-- The first n events may be, one behind the other. -/
def evsOk (E : Nat → Nat → Int) : Nat → Bool
  | 0 => true
  | n + 1 => evsOk E n && (mayEvB (E n 0) (E n 1) (E n 2) (E n 3) && (n == 0 || !wrongEv (E (n - 1) 0) (E (n - 1) 1) (E n 0) (E n 1)))
theorem evsOk_mono (E : Nat → Nat → Int) (n m : Nat) (h : n ≤ m) (hb : evsOk E n = false) : evsOk E m = false := by
  induction m with
  | zero => have : n = 0 := by omega
            subst this; exact hb
  | succ m ih =>
    by_cases e : n = m + 1
    · subst e; exact hb
    · unfold evsOk; rw [ih (by omega), Bool.false_and]
def mayE (fr : Int) (n : Nat) (E : Nat → Nat → Int) (I : Nat → Int) : Bool := decide (0 ≤ fr) && (decide (fr < 1048576) && (evsOk E n && inpAll I 8))
end Go.Proofs.Ytembppihfcclcaa
