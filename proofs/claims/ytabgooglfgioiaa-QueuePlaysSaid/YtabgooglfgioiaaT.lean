/-
  Queue: the queue and the reference's queue do alike.
-/
import Derived.Test.YtabgooglfgioiaaS
namespace Go.Proofs.Ytabgooglfgioiaa
set_option linter.unusedVariables false
open Go.ChangeShapes Go.WideShapes Go.ChangeAt Go.RowKit

def pb (g : Int → Option Value) (f fr i j : Int) : Bool := (decide (-127 ≤ i) && decide (-127 ≤ j)) && nearB f fr && !(g fr).isSome
def gP (g : Int → Option Value) (f fr i j k : Int) : Int → Option Value := if pb g f fr i j then updM g fr (some (inV i j k)) else g
def hP (g : Int → Option Value) (f fr i j : Int) (hs : Nat → Bool) : Nat → Bool := if pb g f fr i j then upd hs (fr - f).toNat true else hs
def iP (g : Int → Option Value) (f fr i j : Int) (X : Nat → Int) (v : Int) : Nat → Int := if pb g f fr i j then updI X (fr - f).toNat v else X

/-- The two hold the same. -/
def Alike (g : Int → Option Value) (f : Int) (hs : Nat → Bool) (X Y Z : Nat → Int) : Prop := Near g f ∧ ∀ j : Nat, j < 64 → g (f + j) = hO hs X Y Z j

theorem QAt.succ {w : World} {b M n : Nat} {f x y z : Int} {g : Int → Option Value} (h : QAt w b M n f x y z g) : QAt w b M (n + 1) f x y z g := by
  obtain ⟨c0, c1, c2, c3, c4, f0, f1, f2, f3, f4, ⟨D, hD, hr⟩, hne, hv⟩ := h
  exact ⟨c0, c1, c2, c3, c4, f0, f1, f2, f3, f4, ⟨D, hD.mono (Nat.le_succ n), hr⟩, hne, hv⟩

theorem put_any (b M n : Nat) (f x y z : Int) (g : Int → Option Value) (fr i j k : Int) (w : World) (h : QAt w b M n f x y z g) (f0 : 0 ≤ f) (f1 : f ≤ 1000000) (h0 : -9223372036854775808 ≤ fr) (h1 : fr ≤ 9223372036854775807) (hnm : n < 1000000) :
    Calls Try.prog 10 #[.pointer (some ⟨b, 0, none⟩), .int .i64 fr, .agg #[.int .i8 i, .int .i8 j, .int .u8 k]] w fun e w' => e = .returned (.bool (pb g f fr i j)) ∧ QAt w' b M (n + 1) f x y z (gP g f fr i j k) ∧ Kept (fun k => k = M) w w' := by
  have no : ∀ (c : Calls Try.prog 10 #[.pointer (some ⟨b, 0, none⟩), .int .i64 fr, .agg #[.int .i8 i, .int .i8 j, .int .u8 k]] w fun e w' => e = .returned (.bool false) ∧ Below w.heap.size w w') (hp : pb g f fr i j = false),
      Calls Try.prog 10 #[.pointer (some ⟨b, 0, none⟩), .int .i64 fr, .agg #[.int .i8 i, .int .i8 j, .int .u8 k]] w fun e w' => e = .returned (.bool (pb g f fr i j)) ∧ QAt w' b M (n + 1) f x y z (gP g f fr i j k) ∧ Kept (fun k => k = M) w w' := by
    intro c hp
    refine c.mono ?_
    rintro e w' ⟨rfl, hB⟩
    unfold gP
    rw [hp]
    exact ⟨rfl, (h.below hB).succ, Kept.of_below hB⟩
  cases hm : (decide (-127 ≤ i) && decide (-127 ≤ j)) with
  | false => exact no (put_no1 b M n f x y z g fr i j k w h hm) (by unfold pb; rw [hm]; rfl)
  | true =>
    cases hn : nearB f fr with
    | false => exact no (put_no2 b M n f x y z g fr i j k w h hm f0 f1 h0 h1 hn) (by unfold pb; rw [hm, hn]; rfl)
    | true =>
      cases hg : g fr with
      | some v =>
        obtain ⟨p, q, r, rfl⟩ := h.vals fr v hg
        exact no (put_no3 b M n f x y z g fr i j k w h hm f0 f1 h0 h1 hn p q r hg) (by unfold pb; rw [hm, hn, hg]; rfl)
      | none =>
        have hp : pb g f fr i j = true := by unfold pb; rw [hm, hn, hg]; rfl
        refine (put_yes b M n f x y z g fr i j k w h hm f0 f1 h0 h1 hn hg (by unfold maxLen; omega)).mono ?_
        rintro e w' ⟨rfl, h1, h2⟩
        unfold gP
        rw [hp]
        exact ⟨rfl, h1, h2⟩

theorem alike_some {g : Int → Option Value} {f : Int} {hs : Nat → Bool} {X Y Z : Nat → Int} (h : Alike g f hs X Y Z) (j : Nat) (hj : j < 64) : (g (f + j)).isSome = hs j := by
  rw [h.2 j hj]; unfold hO; cases hs j <;> rfl

theorem rput_any (c : Nat) (f x y z : Int) (hs : Nat → Bool) (X Y Z : Nat → Int) (g : Int → Option Value) (fr i j k : Int) (w : World) (h : RAt w c f x y z hs X Y Z) (hA : Alike g f hs X Y Z) (hi : -128 ≤ i) (hj : -128 ≤ j) (f0 : 0 ≤ f) (f1 : f ≤ 1000000) (h1 : fr ≤ 9223372036854775807) :
    Calls Try.prog 14 #[.pointer (some ⟨c, 0, none⟩), .int .i64 fr, .agg #[.int .i8 i, .int .i8 j, .int .u8 k]] w fun e w' => e = .returned (.bool (pb g f fr i j)) ∧ RAt w' c f x y z (hP g f fr i j hs) (iP g f fr i j X i) (iP g f fr i j Y j) (iP g f fr i j Z k) ∧ Kept (fun b => b = c) w w' := by
  have no : ∀ (cc : Calls Try.prog 14 #[.pointer (some ⟨c, 0, none⟩), .int .i64 fr, .agg #[.int .i8 i, .int .i8 j, .int .u8 k]] w fun e w' => e = .returned (.bool false) ∧ Below w.heap.size w w') (hp : pb g f fr i j = false),
      Calls Try.prog 14 #[.pointer (some ⟨c, 0, none⟩), .int .i64 fr, .agg #[.int .i8 i, .int .i8 j, .int .u8 k]] w fun e w' => e = .returned (.bool (pb g f fr i j)) ∧ RAt w' c f x y z (hP g f fr i j hs) (iP g f fr i j X i) (iP g f fr i j Y j) (iP g f fr i j Z k) ∧ Kept (fun b => b = c) w w' := by
    intro cc hp
    refine cc.mono ?_
    rintro e w' ⟨rfl, hB⟩
    unfold hP iP
    rw [hp]
    exact ⟨rfl, h.block (hB.block c h.lt), Kept.of_below hB⟩
  cases hm : (decide (-127 ≤ i) && decide (-127 ≤ j)) with
  | false => exact no (rput_1 c f x y z hs X Y Z fr i j k w h hi hj hm) (by unfold pb; rw [hm]; rfl)
  | true =>
    by_cases hf : fr < f
    · exact no (rput_2 c f x y z hs X Y Z fr i j k w h hi hj hm (decide_eq_true hf)) (by unfold pb; rw [show nearB f fr = false from by unfold nearB; simp; omega, Bool.and_false]; rfl)
    · by_cases hn : f + 63 < fr
      · exact no (rput_3 c f x y z hs X Y Z fr i j k w h hi hj hm f0 f1 h1 hn) (by unfold pb; rw [show nearB f fr = false from by unfold nearB; simp; omega, Bool.and_false]; rfl)
      · have hnr : nearB f fr = true := by unfold nearB; simp; omega
        have hsg : (g fr).isSome = hs (fr - f).toNat := by
          have := alike_some hA (fr - f).toNat (by omega)
          rwa [show f + (((fr - f).toNat : Nat) : Int) = fr from by omega] at this
        cases hh : hs (fr - f).toNat with
        | true => exact no (rput_4 c f x y z hs X Y Z fr i j k w h hi hj hm f0 f1 (by omega) (by omega) hh) (by unfold pb; rw [hm, hnr, hsg, hh]; rfl)
        | false =>
          have hp : pb g f fr i j = true := by unfold pb; rw [hm, hnr, hsg, hh]; rfl
          refine (rput_5 c f x y z hs X Y Z fr i j k w h hi hj hm f0 f1 (by omega) (by omega) hh).mono ?_
          rintro e w' ⟨rfl, h1, h2⟩
          unfold hP iP
          rw [hp]
          exact ⟨rfl, h1, h2⟩

theorem alike_put {g : Int → Option Value} {f : Int} {hs : Nat → Bool} {X Y Z : Nat → Int} (h : Alike g f hs X Y Z) (fr i j k : Int) : Alike (gP g f fr i j k) f (hP g f fr i j hs) (iP g f fr i j X i) (iP g f fr i j Y j) (iP g f fr i j Z k) := by
  unfold gP hP iP
  cases hp : pb g f fr i j with
  | false => exact h
  | true =>
    have hn : nearB f fr = true := by unfold pb at hp; simp only [Bool.and_eq_true] at hp; exact hp.1.2
    unfold nearB at hn
    simp only [Bool.and_eq_true, decide_eq_true_eq] at hn
    refine ⟨fun q hq => ?_, fun q hq => ?_⟩
    · simp only [if_true, updM] at hq
      split at hq
      · omega
      · exact h.1 q hq
    · simp only [if_true]
      unfold updM hO upd updI
      by_cases e : q = (fr - f).toNat
      · have e2 : f + (q : Int) = fr := by omega
        simp [e]
        intro h3; omega
      · have e2 : ¬ f + (q : Int) = fr := by omega
        rw [if_neg e2]
        simp only [if_neg e]
        exact h.2 q hq

theorem alike_done {g : Int → Option Value} {f : Int} {hs : Nat → Bool} {X Y Z : Nat → Int} (h : Alike g f hs X Y Z) : Alike (updM g f none) (f + 1) (upd (sh hs 63) 63 false) (updI (sh X 63) 63 0) (updI (sh Y 63) 63 0) (updI (sh Z 63) 63 0) := by
  refine ⟨fun q hq => ?_, fun q hq => ?_⟩
  · unfold updM at hq
    split at hq
    · cases hq
    · have := h.1 q hq; omega
  · unfold updM
    rw [if_neg (by omega)]
    by_cases e : q = 63
    · subst e
      have : g (f + 1 + ((63 : Nat) : Int)) = none := by
        cases e2 : g (f + 1 + ((63 : Nat) : Int)) with
        | none => rfl
        | some v => have := h.1 _ (by rw [e2]; rfl); omega
      rw [this]
      simp [hO, upd]
    · have := h.2 (q + 1) (by omega)
      rw [show f + 1 + (q : Int) = f + ((q + 1 : Nat) : Int) from by omega, this]
      unfold hO upd updI sh
      simp only [if_neg e]
      rw [if_pos (show q < 63 by omega)]
      simp only [if_pos (show q < 63 by omega)]

theorem below_of_drew {w w' : World} (h : Below w.drew.heap.size w.drew w') : Below w.heap.size w w' := ⟨h.os, h.tape, h.output, h.size, h.block⟩
theorem back_congr {h k : Nat → Option Value} : ∀ (n : Nat) (d : Value), (∀ j, j < n → h j = k j) → back h n d = back k n d
  | 0, d, _ => rfl
  | n + 1, d, e => by
    unfold back
    rw [e n (by omega), back_congr n d (fun j hj => e j (by omega))]

theorem rat_any (c : Nat) (f x y z : Int) (hs : Nat → Bool) (X Y Z : Nat → Int) (g : Int → Option Value) (fr : Int) (w : World) (h : RAt w c f x y z hs X Y Z) (hA : Alike g f hs X Y Z) (f0 : 0 ≤ f) (f1 : f ≤ 1000000) (h1 : fr ≤ 9223372036854775807) (v : Value) (is : Bool) (hv : atV g f (inV x y z) fr = v) (his : (g fr).isSome = is) :
    Calls Try.prog 17 #[.pointer (some ⟨c, 0, none⟩), .int .i64 fr] w fun e w' => e = .returned (.tuple #[v, .bool is]) ∧ Below w.heap.size w w' := by
  subst hv his
  by_cases hf : fr < f
  · have e : (g fr).isSome = false := by
      cases e : (g fr).isSome with
      | false => rfl
      | true => have := hA.1 fr e; omega
    rw [atV_low hf, e]
    exact rat_1 c f x y z hs X Y Z fr w h hf
  · obtain ⟨d, rfl⟩ : ∃ d : Nat, fr = f + d := ⟨(fr - f).toNat, by omega⟩
    have e1 : atV g f (inV x y z) (f + (d : Int)) = back (hO hs X Y Z) (min 64 (d + 1)) (inV x y z) := by
      unfold atV
      rw [show min 64 (f + (d : Int) - f + 1).toNat = min 64 (d + 1) from by omega]
      exact back_congr _ _ (fun j hj => hA.2 j (by omega))
    have e2 : (g (f + (d : Int))).isSome = (decide (d < 64) && hs d) := by
      by_cases h64 : d < 64
      · rw [alike_some hA d h64]; simp [h64]
      · cases e : (g (f + (d : Int))).isSome with
        | false => simp [h64]
        | true => have := hA.1 _ e; omega
    rw [e1, e2]
    exact rat_2 c f x y z hs X Y Z d w h f0 f1 h1
end Go.Proofs.Ytabgooglfgioiaa
