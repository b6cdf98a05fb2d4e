/-
  Curve: the Go text of CurveEases returns true for every input.
-/
import Derived.Test.YtmkmlkfnodhejaaH
namespace Go.Proofs.Ytmkmlkfnodhejaa
set_option linter.unusedVariables false
open Go.ChangeShapes Go.WideShapes Go.ChangeAt Go.RowKit
attribute [local go_sem] run_neg_f64 frombits_run bits_run

def eS (u : Nat) : Nat := (Ieee.double.mul u u).getD 0
def eD (u : Nat) : Nat := (Ieee.double.mul 4611686018427387904 u).getD 0
def eV (u : Nat) : Nat := (Ieee.double.sub 4613937818241073152 (eD u)).getD 0
def eE (u : Nat) : Nat := (Ieee.double.mul (eS u) (eV u)).getD 0
def easeB (u : Nat) : Bool := Ieee.double.mul u u == some (eS u) && (Ieee.double.mul 4611686018427387904 u == some (eD u) && (Ieee.double.sub 4613937818241073152 (eD u) == some (eV u) && Ieee.double.mul (eS u) (eV u) == some (eE u)))
theorem isEase_easeB {u : Nat} (h : easeB u = true) : IsEase u (eS u) (eD u) (eV u) (eE u) := by
  unfold easeB at h
  simp only [Bool.and_eq_true, beq_iff_eq] at h
  exact ⟨h.1, h.2.1, h.2.2.1, h.2.2.2⟩
def addO (a b : Nat) : Nat := (Ieee.double.add a b).getD 0
def ease65 (k : Nat) : Bool :=
  let x := FK.D (k : Int) (-6)
  let y := FK.D (64 - (k : Int)) (-6)
  decide (x ≤ 4607182418800017408) && (decide (y ≤ 4607182418800017408) && (easeB x && (easeB y && (Ieee.double.add (eE x) (eE y) == some (addO (eE x) (eE y)) &&
    ((fo (addO (eE x) (eE y)) 4607182409792818153 == some .gt) && ((fo (addO (eE x) (eE y)) 4607182423303617035 == some .lt) &&
    (((fo x 4602678819172646912 == some .gt || fo x 4602678819172646912 == some .eq) || (fo (eE x) x == some .lt || fo (eE x) x == some .eq)) &&
    ((fo x 4602678819172646912 == some .lt || fo x 4602678819172646912 == some .eq) || (fo (eE x) x == some .gt || fo (eE x) x == some .eq)))))))))
theorem all65 : (List.range 65).all ease65 = true := by decide +kernel
theorem at65 {k : Nat} (hk : k < 65) : ease65 k = true := by
  have := all65
  rw [List.all_eq_true] at this
  exact this k (List.mem_range.2 hk)
theorem fdiv64 (n : Int) (h0 : 0 ≤ n) (h1 : n < 65) : FloatKind.f64.format.div (floatOfInt .f64 n) 4634204016564240384 = some (FK.D n (-6)) := by
  have hw : FK.Wr n 0 := by unfold FK.Wr; omega
  rw [FK.ofInt_D]
  exact FK.div_D hw 4634204016564240384 6 (by decide) (by decide) (by decide) (by decide)
theorem one_less (n : Int) (h0 : 0 ≤ n) (h1 : n < 65) : Ieee.double.sub 4607182418800017408 (FK.D n (-6)) = some (FK.D (64 - n) (-6)) := by
  have e : 4607182418800017408 = FK.D 64 (-6) := by decide +kernel
  rw [e]
  exact FK.sub_D (by unfold FK.Wr; omega) (by unfold FK.Wr; omega) (by omega)
theorem u64_rng (n : Int) : 0 ≤ IntKind.u64.wrap n ∧ IntKind.u64.wrap n < 18446744073709551616 := by simp [IntKind.wrap, IntKind.bits, IntKind.signed]; omega
theorem ease0 : IsEase (FK.unit 0) 0 0 4613937818241073152 0 := ⟨by decide +kernel, by decide +kernel, by decide +kernel, by decide +kernel⟩
theorem ease1 : IsEase (FK.unit 4607182418800017408) 4607182418800017408 4611686018427387904 4607182418800017408 4607182418800017408 := ⟨by decide +kernel, by decide +kernel, by decide +kernel, by decide +kernel⟩
set_option maxHeartbeats 1000000 in
theorem law_CurveEases (a0 : Int) (w : World) (w0 : (Lit.int .i64 a0).wf = true) :
    Calls Try.prog 10 #[.int .i64 a0] w fun e w' => e = .returned (.bool true) ∧ Below w.heap.size w w' := by
  have hu := u64_rng a0
  have e2 : (IntKind.u64.wrap a0).tmod 65 = IntKind.u64.wrap a0 % 65 := Int.tmod_eq_emod_of_nonneg hu.1
  have hd := fdiv64 (IntKind.u64.wrap a0 % 65) (by omega) (by omega)
  have hs := one_less (IntKind.u64.wrap a0 % 65) (by omega) (by omega)
  have hk := at65 (k := (IntKind.u64.wrap a0 % 65).toNat) (by omega)
  unfold ease65 at hk
  rw [Int.toNat_of_nonneg (show 0 ≤ IntKind.u64.wrap a0 % 65 by omega)] at hk
  simp only [] at hk
  generalize FK.D (IntKind.u64.wrap a0 % 65) (-6) = x at *
  generalize FK.D (64 - IntKind.u64.wrap a0 % 65) (-6) = y at *
  simp only [Bool.and_eq_true, decide_eq_true_eq] at hk
  obtain ⟨x1, y1, xe, ye, xa, g1, g2, g3, g4⟩ := hk
  have xE := isEase_easeB xe
  have yE := isEase_easeB ye
  rw [← FK.unit_id x1] at xE
  rw [← FK.unit_id y1] at yE
  rw [FK.unit_id x1] at xE
  rw [FK.unit_id y1] at yE
  have xu := FK.unit_id x1
  have yu := FK.unit_id y1
  generalize eE x = a at *
  generalize eE y = b at *
  generalize eS x = s at *
  generalize eD x = d at *
  generalize eV x = v at *
  generalize eS y = s' at *
  generalize eD y = d' at *
  generalize eV y = v' at *
  generalize addO a b = q at *
  rw [← xu] at xE
  rw [← yu] at yE
  rw [beq_iff_eq] at xa
  have x1 := fun (W : World) => run_float_arith (P := Try.prog) W .quo 22 .f64 _ _ _ hd
  have x2 := fun (W : World) => run_float_arith (P := Try.prog) W .sub 22 .f64 _ _ _ hs
  have x3 := fun (W : World) => run_float_arith (P := Try.prog) W .add 22 .f64 _ _ _ xa
  have q0 : (fo 0 0 == some .eq) = true := z_eq
  have q1 : (fo 4607182418800017408 4607182418800017408 == some .eq) = true := o_o
  have XE := Lib.hid xE
  have YE := Lib.hid yE
  clear w0 hu hd hs xE yE xu yu xe ye xa
  cases g5 : (fo x 4602678819172646912 == some .gt || fo x 4602678819172646912 == some .eq) with
  | true =>
    cases g6 : (fo x 4602678819172646912 == some .lt || fo x 4602678819172646912 == some .eq) with
    | true =>
      clear g3 g4
      go_enter Try.func10, Try.ntmps10
      go_wp2_with fail
      refine (ease_any _ _ _ _ _ XE.out _).mono ?_
      rintro e w' ⟨rfl, rfl⟩
      go_wp2_with fail
      refine (ease_any _ _ _ _ _ YE.out _).mono ?_
      rintro e w' ⟨rfl, rfl⟩
      go_wp2_with fail
      refine (told_law _).mono ?_
      rintro e w1 ⟨rfl, hB⟩
      go_wp2_with fail
      refine (ease_any _ _ _ _ _ ease0 _).mono ?_
      rintro e w' ⟨rfl, rfl⟩
      go_wp2_with fail
      refine (ease_any _ _ _ _ _ ease1 _).mono ?_
      rintro e w' ⟨rfl, rfl⟩
      go_wp2_with fail
      go_ret
      exact ⟨rfl, hB⟩
    | false =>
      rw [g6, Bool.false_or] at g4
      clear g3
      go_enter Try.func10, Try.ntmps10
      go_wp2_with fail
      refine (ease_any _ _ _ _ _ XE.out _).mono ?_
      rintro e w' ⟨rfl, rfl⟩
      go_wp2_with fail
      refine (ease_any _ _ _ _ _ YE.out _).mono ?_
      rintro e w' ⟨rfl, rfl⟩
      go_wp2_with fail
      refine (told_law _).mono ?_
      rintro e w1 ⟨rfl, hB⟩
      go_wp2_with fail
      refine (ease_any _ _ _ _ _ ease0 _).mono ?_
      rintro e w' ⟨rfl, rfl⟩
      go_wp2_with fail
      refine (ease_any _ _ _ _ _ ease1 _).mono ?_
      rintro e w' ⟨rfl, rfl⟩
      go_wp2_with fail
      go_ret
      exact ⟨rfl, hB⟩
  | false =>
    rw [g5, Bool.false_or] at g3
    cases g6 : (fo x 4602678819172646912 == some .lt || fo x 4602678819172646912 == some .eq) with
    | true =>
      clear g4
      go_enter Try.func10, Try.ntmps10
      go_wp2_with fail
      refine (ease_any _ _ _ _ _ XE.out _).mono ?_
      rintro e w' ⟨rfl, rfl⟩
      go_wp2_with fail
      refine (ease_any _ _ _ _ _ YE.out _).mono ?_
      rintro e w' ⟨rfl, rfl⟩
      go_wp2_with fail
      refine (told_law _).mono ?_
      rintro e w1 ⟨rfl, hB⟩
      go_wp2_with fail
      refine (ease_any _ _ _ _ _ ease0 _).mono ?_
      rintro e w' ⟨rfl, rfl⟩
      go_wp2_with fail
      refine (ease_any _ _ _ _ _ ease1 _).mono ?_
      rintro e w' ⟨rfl, rfl⟩
      go_wp2_with fail
      go_ret
      exact ⟨rfl, hB⟩
    | false =>
      rw [g6, Bool.false_or] at g4
      go_enter Try.func10, Try.ntmps10
      go_wp2_with fail
      refine (ease_any _ _ _ _ _ XE.out _).mono ?_
      rintro e w' ⟨rfl, rfl⟩
      go_wp2_with fail
      refine (ease_any _ _ _ _ _ YE.out _).mono ?_
      rintro e w' ⟨rfl, rfl⟩
      go_wp2_with fail
      refine (told_law _).mono ?_
      rintro e w1 ⟨rfl, hB⟩
      go_wp2_with fail
      refine (ease_any _ _ _ _ _ ease0 _).mono ?_
      rintro e w' ⟨rfl, rfl⟩
      go_wp2_with fail
      refine (ease_any _ _ _ _ _ ease1 _).mono ?_
      rintro e w' ⟨rfl, rfl⟩
      go_wp2_with fail
      go_ret
      exact ⟨rfl, hB⟩
end Go.Proofs.Ytmkmlkfnodhejaa
