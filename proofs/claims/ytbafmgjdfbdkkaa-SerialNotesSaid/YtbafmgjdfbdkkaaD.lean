/-
  Serial: the Go text of SerialGaps returns true for every input.
-/
import Derived.Test.YtbafmgjdfbdkkaaC
namespace Go.Proofs.Ytbafmgjdfbdkkaa
set_option linter.unusedVariables false
open Go.ChangeShapes Go.WideShapes Go.ChangeAt Go.RowKit

/-- A new Heard, under names that stay. -/
theorem new_named (w : World) {Q : Ending → World → Prop}
    (k : ∀ (b : Nat) (w1 : World), w.heap.size = b → HeardAt w1 b false 0 (0 : Nat) → Below b w w1 → b < w1.heap.size → Q (.returned (.pointer (some ⟨b, 0, none⟩))) w1) :
    Calls Try.prog 15 #[] w Q := by
  refine (new_any w).mono ?_
  rintro e w1 ⟨rfl, rfl⟩
  exact k _ _ rfl (heardAt_new w) ((Below.refl _ _).alloc (Nat.le_refl _) _) (by simp)

theorem gaps_plain (a g : Int) (a0 : 0 ≤ a) (a1 : a ≤ 65535) (g0 : 2 ≤ g) (g1 : g ≤ 60) (s1 s2 : Int) (h1 : s1 = (a + g % 65536) % 65536) (h2 : s2 = (a + 1) % 65536) :
    noteB true a s1 0 = true ∧ noteL true a s1 = s1 ∧
    noteB true s1 s2 (noteM true a s1 0) = decide (g - 1 ≤ 32) ∧ noteL true s1 s2 = s1 ∧
    noteB true s1 a (noteM true s1 s2 (noteM true a s1 0)) = false ∧
    toldN s2 s1 (noteM true a s1 0) = false ∧ toldN a s1 (noteM true a s1 0) = decide (g ≤ 32) := by
  have k1 : way a s1 = g := by rw [way_eq]; omega
  have k2 : way s1 s2 = 1 - g := by rw [way_eq]; omega
  have k3 : way s1 a = -g := by rw [way_eq]; omega
  have k4 : way s2 s1 = g - 1 := by rw [way_eq]; omega
  have p1 : 0 < g := by omega
  have p2 : ¬ 0 < 1 - g := by omega
  have p3 : ¬ 0 < -g := by omega
  have p4 : ¬ (1 - g = 0) := by omega
  have p5 : ¬ (-g = 0) := by omega
  have m1 : noteM true a s1 0 = if g ≤ 32 then 2 ^ (g.toNat - 1) else 0 := by
    unfold noteM; rw [k1]
    by_cases h : g ≤ 32
    · have : ¬ 32 < g := by omega
      simp [h, this, p1, bitN]
    · have : 32 < g := by omega
      simp [h, this]
  have n1 : noteB true a s1 0 = true := by simp [noteB, k1, p1]
  have n2 : noteL true a s1 = s1 := by simp [noteL, k1, p1]
  have n4 : noteL true s1 s2 = s1 := by unfold noteL; rw [k2, if_neg (by simp), if_neg p2]
  have t0 : (noteM true a s1 0).testBit ((g - 1).toNat - 1) = false := by
    rw [m1]; split
    · rw [Nat.testBit_two_pow]; simp; omega
    · simp
  have n3 : noteB true s1 s2 (noteM true a s1 0) = decide (g - 1 ≤ 32) := by
    unfold noteB; rw [k2]
    by_cases h : g - 1 ≤ 32
    · have e1 : ¬ (1 - g < -32) := by omega
      rw [if_neg (by simp), if_neg p2, if_neg p4, if_neg e1, show (-(1 - g)) = g - 1 by omega, t0]; simp [h]
    · have e1 : (1 - g < -32) := by omega
      rw [if_neg (by simp), if_neg p2, if_neg p4, if_pos e1]; simp [h]
  have m2 : noteM true s1 s2 (noteM true a s1 0) = if g - 1 ≤ 32 then noteM true a s1 0 ||| bitN (g - 1) else noteM true a s1 0 := by
    generalize noteM true a s1 0 = x
    unfold noteM
    rw [k2]
    have e0 : ¬ 32 < 1 - g := by omega
    by_cases h : g - 1 ≤ 32
    · have e1 : ¬ (1 - g < -32) := by omega
      rw [if_neg (by simp), if_neg e0, if_neg p2, if_neg p4, if_neg e1, if_pos h, show (-(1 - g)) = g - 1 by omega]
    · have e1 : (1 - g < -32) := by omega
      rw [if_neg (by simp), if_neg e0, if_neg p2, if_neg p4, if_pos e1, if_neg h]
  have n5 : noteB true s1 a (noteM true s1 s2 (noteM true a s1 0)) = false := by
    unfold noteB; rw [k3]
    by_cases h : g ≤ 32
    · have e1 : ¬ (-g < -32) := by omega
      rw [if_neg (by simp), if_neg p3, if_neg p5, if_neg e1, Int.neg_neg, m2, if_pos (by omega), m1, if_pos h, Nat.testBit_or, Nat.testBit_two_pow]
      simp
    · have e1 : (-g < -32) := by omega
      rw [if_neg (by simp), if_neg p3, if_neg p5, if_pos e1]
  have n6 : toldN s2 s1 (noteM true a s1 0) = false := by
    unfold toldN; rw [k4, t0]; simp; omega
  have n7 : toldN a s1 (noteM true a s1 0) = decide (g ≤ 32) := by
    unfold toldN; rw [k1, m1]
    by_cases h : g ≤ 32
    · rw [if_pos h, Nat.testBit_two_pow]; simp [h]; omega
    · rw [if_neg h]; simp [h]; omega
  exact ⟨n1, n2, n3, n4, n5, n6, n7⟩

theorem law_SerialGaps (a0 a1 : Int) (w0 : (Lit.int .u16 a0).wf = true) (w1 : (Lit.int .i64 a1).wf = true) (w : World) :
    Calls Try.prog 8 #[.int .u16 a0, .int .i64 a1] w fun e w' => e = .returned (.bool true) ∧ Below w.heap.size w w' := by
  obtain ⟨a00, a01⟩ := u16_bd w0
  have hu : 0 ≤ IntKind.u64.wrap a1 := by simp [IntKind.wrap, IntKind.bits, IntKind.signed]; omega
  have g0 : 0 ≤ IntKind.u64.wrap a1 % 59 := by omega
  have g1 : IntKind.u64.wrap a1 % 59 ≤ 58 := by omega
  obtain ⟨n1, n2, n3, n4, n5, n6, n7⟩ := gaps_plain a0 (2 + IntKind.u64.wrap a1 % 59) a00 a01 (by omega) (by omega) (IntKind.u16.wrap (a0 + (2 + IntKind.u64.wrap a1 % 59))) (IntKind.u16.wrap (a0 + 1)) (by rw [wrap_u16]; omega) (by rw [wrap_u16])
  clear w0 w1
  generalize hB0 : w.heap.size = B
  have HB := Lib.hid hB0
  clear hB0
  have N1 := Lib.hid n1
  have N2 := Lib.hid n2
  have N3 := Lib.hid n3
  have N4 := Lib.hid n4
  have N5 := Lib.hid n5
  have N6 := Lib.hid n6
  have N7 := Lib.hid n7
  clear n1 n2 n3 n4 n5 n6 n7
  have q1 : (decide (2 + IntKind.u64.wrap a1 % 59 - 1 ≤ 32) == decide (2 + IntKind.u64.wrap a1 % 59 - 1 ≤ 32)) = true := by simp
  have q2 : (decide (2 + IntKind.u64.wrap a1 % 59 ≤ 32) == decide (2 + IntKind.u64.wrap a1 % 59 ≤ 32)) = true := by simp
  go_enter Try.func8, Try.ntmps8
  go_wp2_with fail
  refine new_named w ?_
  intro b x1 hb hn hB hs
  obtain rfl : B = b := HB.out.symm.trans hb
  clear hb
  go_wp2_with fail
  refine (note_any B false 0 a0 0 (by decide) _ hn).mono ?_
  rintro e x2 ⟨rfl, h2, o2⟩
  replace h2 : HeardAt x2 B true a0 (0 : Nat) := h2
  rw [show noteB false 0 a0 0 = true from rfl]
  go_wp2_with fail
  refine (note_any B true a0 _ 0 (by decide) _ h2).mono ?_
  rintro e x3 ⟨rfl, h3, o3⟩
  rw [N1.out]
  rw [N2.out] at h3
  have l3 := noteM_lt true a0 (IntKind.u16.wrap (a0 + (2 + IntKind.u64.wrap a1 % 59))) 0 (by decide)
  generalize noteM true a0 (IntKind.u16.wrap (a0 + (2 + IntKind.u64.wrap a1 % 59))) 0 = M at *
  generalize IntKind.u16.wrap (a0 + (2 + IntKind.u64.wrap a1 % 59)) = s1 at *
  have L3 := Lib.hid l3
  clear l3
  go_wp2_with fail
  refine (last_any B true s1 M _ h3).mono ?_
  rintro e x4 ⟨rfl, n4, rfl⟩
  have h4 := h3.drewN n4
  have o4 : Only B x3 (x3.drewN n4) := (Only.refl _ _).drewN _
  generalize x3.drewN n4 = x4 at h4 o4 ⊢
  go_wp2_with fail
  refine (told_any' _ s1 M L3.out _).mono ?_
  rintro e w' ⟨rfl, rfl⟩
  rw [N6.out]
  go_wp2_with fail
  refine (note_any B true s1 _ M L3.out _ h4).mono ?_
  rintro e x5 ⟨rfl, h5, o5⟩
  rw [N3.out]
  rw [N4.out] at h5
  have l5 := noteM_lt true s1 (IntKind.u16.wrap (a0 + 1)) M L3.out
  generalize noteM true s1 (IntKind.u16.wrap (a0 + 1)) M = M2 at *
  have L5 := Lib.hid l5
  clear l5
  go_wp2_with fail
  refine (note_any B true s1 _ M2 L5.out _ h5).mono ?_
  rintro e x6 ⟨rfl, h6, o6⟩
  rw [N5.out]
  have hB6 : Below B w x6 := (hB.trans ((((o2.trans o3).trans o4).trans o5).trans o6 |>.below (Nat.le_refl _)))
  go_wp2_with fail
  refine (told_law _).mono ?_
  rintro e x7 ⟨rfl, hB7⟩
  have hB7' : Below B w x7 := hB6.trans (hB7.mono (by have := hB6.size; have := HB.out; have := o2.size; have := o3.size; have := o4.size; have := o5.size; have := o6.size; omega))
  clear hB hB6 hB7 hn h2 h3 h4 h5 h6 o2 o3 o4 o5 o6
  go_wp2_with fail
  refine (told_any' _ s1 M L3.out _).mono ?_
  rintro e w' ⟨rfl, rfl⟩
  rw [N7.out]
  go_wp2_with fail
  go_ret
  exact ⟨rfl, hB7'⟩
end Go.Proofs.Ytbafmgjdfbdkkaa
