/-
  Curve: the Go text of CurveTurns returns true for every input.
-/
import Derived.Test.YtmkmlkfnodhejaaI
namespace Go.Proofs.Ytmkmlkfnodhejaa
set_option linter.unusedVariables false
open Go.ChangeShapes Go.WideShapes Go.ChangeAt Go.RowKit
attribute [local go_sem] run_neg_f64 frombits_run bits_run

theorem fr_pos (a z : Nat) : a * z % (8 * z) = a % 8 * z := by
  rw [Nat.mul_mod_mul_right]
theorem fr_neg (a z : Nat) (hz : 0 < z) : (a * z / (8 * z) + (if a * z % (8 * z) ≠ 0 then 1 else 0)) * (8 * z) - a * z = (8 - a % 8) % 8 * z := by
  rw [Nat.mul_mod_mul_right, Nat.mul_div_mul_right _ _ hz]
  by_cases h : a % 8 = 0
  · rw [h, if_neg (by simp)]
    have : (a / 8 + 0) * (8 * z) = a * z := by
      rw [← Nat.mul_assoc]
      congr 1
      omega
    rw [this]
    omega
  · have hp : a % 8 * z ≠ 0 := by
      intro e
      rcases Nat.mul_eq_zero.1 e with e | e <;> omega
    rw [if_pos hp]
    have e1 : (a / 8 + 1) * (8 * z) = ((a / 8 + 1) * 8) * z := by rw [Nat.mul_assoc]
    rw [e1, ← Nat.sub_mul]
    congr 1
    omega
theorem pow_three (k n : Nat) (h : n = 3 + k) : (2 : Nat) ^ n = 8 * 2 ^ k := by
  subst h
  exact Nat.pow_add 2 3 k
theorem Fr_D (m : Int) (h : -100000 ≤ m ∧ m ≤ 100000) : FK.Fr (FK.D m (-3)) = (m % 8).toNat * 2 ^ 1071 := by
  have hw : FK.Wr m (-3) := by unfold FK.Wr; omega
  have hM := FK.M_D hw
  rw [show ((-3 : Int) + 1074).toNat = 1071 from rfl] at hM
  have h3 := pow_three 1071 1074 rfl
  have hz : 0 < 2 ^ 1071 := Nat.two_pow_pos 1071
  unfold FK.Fr FK.NF
  rw [hM, FK.sg_D, h3]
  clear hM h3 hw
  generalize 2 ^ 1071 = z at *
  by_cases hm : m < 0
  · rw [decide_eq_true hm, if_pos rfl]
    simp only [true_and]
    rw [fr_neg _ _ hz]
    congr 1
    omega
  · rw [decide_eq_false hm, if_neg (by simp), fr_pos]
    congr 1
    omega
def turnK (k : Nat) : Nat := if FK.sr (turnY (FK.R (k * 2 ^ 1071))) = 0 then 0 else turnY (FK.R (k * 2 ^ 1071))
theorem turn_D (m : Int) (h : -100000 ≤ m ∧ m ≤ 100000) : turnG (FK.D m (-3)) = turnK (m % 8).toNat := by
  have hw : FK.Wr m (-3) := by unfold FK.Wr; omega
  unfold turnG turnF turnK
  rw [if_pos (FK.fin_D hw), Fr_D m h]
theorem D8 (n : Int) : FK.D n 0 = FK.D (n * 8) (-3) := (FK.D_scale n 0 3).symm
theorem fdiv8 (n : Int) (h0 : 0 ≤ n) (h1 : n < 8) : FloatKind.f64.format.div (floatOfInt .f64 n) 4620693217682128896 = some (FK.D n (-3)) := by
  have hw : FK.Wr n 0 := by unfold FK.Wr; omega
  rw [FK.ofInt_D]
  exact FK.div_D hw 4620693217682128896 3 (by decide) (by decide) (by decide) (by decide)
def turn8 (k : Nat) : Bool :=
  if k < 4 then (fo (turnK k) (FK.D (k : Int) (-3)) == some .eq) else (fo (turnK k) (FK.D ((k : Int) - 8) (-3)) == some .eq)
theorem all8 : (List.range 8).all turn8 = true := by decide +kernel
theorem at8 {k : Nat} (hk : k < 8) : turn8 k = true := by
  have := all8
  rw [List.all_eq_true] at this
  exact this k (List.mem_range.2 hk)
theorem turnK0 : turnK 0 = 0 := by decide +kernel
set_option maxHeartbeats 1000000 in
theorem law_CurveTurns (a0 a1 : Int) (w : World) (w0 : (Lit.int .i64 a0).wf = true) (w1 : (Lit.int .i64 a1).wf = true) :
    Calls Try.prog 7 #[.int .i64 a0, .int .i64 a1] w fun e w' => e = .returned (.bool true) ∧ Below w.heap.size w w' := by
  have hu := u64_rng a0
  have hu1 := u64_rng a1
  obtain ⟨n, hn⟩ : ∃ n, n = IntKind.u64.wrap a0 % 2001 - 1000 := ⟨_, rfl⟩
  obtain ⟨k, hk⟩ : ∃ k, k = IntKind.u64.wrap a1 % 8 := ⟨_, rfl⟩
  have e1 : wrap64 ((IntKind.u64.wrap a0).tmod 2001) = n + 1000 := by rw [Int.tmod_eq_emod_of_nonneg hu.1]; unfold wrap64; omega
  have e2 : wrap64 n = n := by unfold wrap64; omega
  have e3 : wrap64 ((IntKind.u64.wrap a1).tmod 8) = k := by rw [Int.tmod_eq_emod_of_nonneg hu1.1]; unfold wrap64; omega
  have hd := fdiv8 k (by omega) (by omega)
  have h8 := at8 (k := k.toNat) (by omega)
  unfold turn8 at h8
  rw [Int.toNat_of_nonneg (by omega)] at h8
  have hwn : FK.Wr (n * 8) (-3) := by unfold FK.Wr; omega
  have hwk : FK.Wr k (-3) := by unfold FK.Wr; omega
  have ha := FK.add_D hwn hwk
  rw [← D8, ← FK.ofInt_D] at ha
  have ht := turn_D (n * 8 + k) (by omega)
  rw [show (n * 8 + k) % 8 = k by omega] at ht
  have h0 : turnG (floatOfInt .f64 n) = 0 := by
    rw [FK.ofInt_D, D8, turn_D _ (by omega), show n * 8 % 8 = 0 by omega]
    exact turnK0
  have hone : 4607182418800017408 = FK.D 8 (-3) := by decide +kernel
  have vb := FK.D_lt (n * 8 + k) (-3)
  have nb : floatOfInt .f64 n < 18446744073709551616 := by rw [FK.ofInt_D]; exact FK.D_lt _ _
  have q0 : (fo 0 0 == some .eq) = true := z_eq
  generalize turnK k.toNat = t at *
  generalize FK.D (n * 8 + k) (-3) = v at *
  have x1 := fun (W : World) => run_float_arith (P := Try.prog) W .quo 22 .f64 _ _ _ hd
  have x2 := fun (W : World) => run_float_arith (P := Try.prog) W .add 22 .f64 _ _ _ ha
  have VB := Lib.hid vb
  have NB := Lib.hid nb
  have HT := Lib.hid ht
  have H0 := Lib.hid h0
  by_cases h4 : k < 4
  · rw [if_pos (by omega)] at h8
    generalize FK.D k (-3) = kw at *
    have g : (4 ≤ k) = False := by simp; omega
    clear w0 w1 hu hu1 hn hk hd ha ht h0 hwn hwk hone vb nb h4
    go_enter Try.func7, Try.ntmps7
    go_wp2_with fail
    refine (turn_any _ VB.out _).mono ?_
    rintro e w' ⟨rfl, rfl⟩
    rw [HT.out]
    go_wp2_with fail
    refine (told_law _).mono ?_
    rintro e w1 ⟨rfl, hB⟩
    go_wp2_with fail
    refine (turn_any _ NB.out _).mono ?_
    rintro e w' ⟨rfl, rfl⟩
    rw [H0.out]
    go_wp2_with fail
    refine (signbit_any _ (by decide) _).mono ?_
    rintro e w' ⟨rfl, rfl⟩
    rw [show FK.sg 0 = false from by decide]
    go_wp2_with fail
    refine (turn_any _ NB.out _).mono ?_
    rintro e w' ⟨rfl, rfl⟩
    rw [H0.out]
    go_wp2_with fail
    go_ret
    exact ⟨rfl, hB⟩
  · rw [if_neg (by omega)] at h8
    have hs := FK.sub_D (n := k) (m := 8) (p := -3) hwk (by unfold FK.Wr; omega) (by omega)
    rw [← hone] at hs
    generalize FK.D k (-3) = kw at *
    generalize FK.D (k - 8) (-3) = kw' at *
    have x3 := fun (W : World) => run_float_arith (P := Try.prog) W .sub 22 .f64 _ _ _ hs
    have g : (4 ≤ k) = True := by simp; omega
    clear w0 w1 hu hu1 hn hk hd ha ht h0 hwn hwk hone vb nb h4 hs
    go_enter Try.func7, Try.ntmps7
    go_wp2_with fail
    refine (turn_any _ VB.out _).mono ?_
    rintro e w' ⟨rfl, rfl⟩
    rw [HT.out]
    go_wp2_with fail
    refine (told_law _).mono ?_
    rintro e w1 ⟨rfl, hB⟩
    go_wp2_with fail
    refine (turn_any _ NB.out _).mono ?_
    rintro e w' ⟨rfl, rfl⟩
    rw [H0.out]
    go_wp2_with fail
    refine (signbit_any _ (by decide) _).mono ?_
    rintro e w' ⟨rfl, rfl⟩
    rw [show FK.sg 0 = false from by decide]
    go_wp2_with fail
    refine (turn_any _ NB.out _).mono ?_
    rintro e w' ⟨rfl, rfl⟩
    rw [H0.out]
    go_wp2_with fail
    go_ret
    exact ⟨rfl, hB⟩
end Go.Proofs.Ytmkmlkfnodhejaa
