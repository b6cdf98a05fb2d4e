/-
  Stick: the Go text of StickSteps returns true for every input.
-/
import Derived.Test.YtbgliebmdjjmaaaG
import Derived.Test.YtbgliebmdjjmaaaE
namespace Go.Proofs.Ytbgliebmdjjmaaa
set_option linter.unusedVariables false
open Go.ChangeShapes Go.WideShapes Go.ChangeAt Go.RowKit
attribute [local go_sem] run_neg_f64

def stepF (k : Nat) : Nat := (Ieee.double.div (floatOfInt .f64 k) 4638637247447433216).getD 0
def partQ (p : Nat) : Nat := (Ieee.double.div (floatOfInt .f64 p) 4636737291354636288).getD 0
def partF (p : Nat) : Nat := (Ieee.double.div (partQ p) 4638637247447433216).getD 0
def stepR (k p : Nat) : Nat := FK.R (FK.M (stepF k) + FK.M (partF p))
structure Top (t : Nat) : Prop where
  part : ∀ p : Fin 100, Ieee.double.div (floatOfInt .f64 p.val) 4636737291354636288 = some (partQ p.val) ∧ Ieee.double.div (partQ p.val) 4638637247447433216 = some (partF p.val) ∧ partF p.val ≤ t
  fin : t < 9218868437227405312
  step : ∀ k : Fin 112, Ieee.double.div (floatOfInt .f64 ((16 + k.val : Nat) : Int)) 4638637247447433216 = some (stepF (16 + k.val)) ∧ stepF (16 + k.val) < 9218868437227405312 ∧ 0 < FK.M (stepF (16 + k.val)) ∧ axisF (stepF (16 + k.val)) = ((16 + k.val : Nat) : Int) ∧ FK.R (FK.M (stepF (16 + k.val)) + FK.M t) < 9218868437227405312 ∧ axisF (FK.R (FK.M (stepF (16 + k.val)) + FK.M t)) ≤ ((16 + k.val : Nat) : Int) + 1
theorem top_is : Top (partF 99) := ⟨by decide +kernel, by decide +kernel, by decide +kernel⟩
theorem top_ex : ∃ t, Top t := ⟨_, top_is⟩
theorem rg_of {x : Nat} (h : x < 9218868437227405312) : FK.rg x = x := Nat.mod_eq_of_lt (by omega)
theorem sg_of {x : Nat} (h : x < 9218868437227405312) : FK.sg x = false := by
  have := FK.sg_mkw false x (by omega)
  simpa [FK.mkw] using this
theorem sr_of {x : Nat} (h : x < 9218868437227405312) : FK.sr x = x := by unfold FK.sr; rw [sg_of h, rg_of h]; rfl
theorem V_of {x : Nat} (h : x < 9218868437227405312) : FK.V x = FK.M x := by unfold FK.V; rw [sg_of h, rg_of h]; rfl
structure StepAt (k p : Nat) : Prop where
  divF : Ieee.double.div (floatOfInt .f64 (k : Int)) 4638637247447433216 = some (stepF k)
  divQ : Ieee.double.div (floatOfInt .f64 (p : Int)) 4636737291354636288 = some (partQ p)
  divP : Ieee.double.div (partQ p) 4638637247447433216 = some (partF p)
  add : Ieee.double.add (stepF k) (partF p) = some (stepR k p)
  fF : stepF k < 18446744073709551616
  fG : stepR k p < 18446744073709551616
  aF : axisF (stepF k) = k
  lo : (k : Int) ≤ axisF (stepR k p)
  hi : axisF (stepR k p) ≤ (k : Int) + 1
theorem step_at (k p : Nat) (k0 : 16 ≤ k) (k1 : k ≤ 127) (hp : p < 100) : StepAt k p := by
  obtain ⟨t, ht⟩ := top_ex
  obtain ⟨q1, q2, q3⟩ := ht.part ⟨p, hp⟩
  obtain ⟨s1, s2, s3, s4, s5, s6⟩ := ht.step ⟨k - 16, by omega⟩
  have hp9 := ht.fin
  have e : 16 + (⟨k - 16, by omega⟩ : Fin 112).val = k := by simp; omega
  rw [e] at s1 s2 s3 s4 s5 s6
  simp only at q1 q2 q3
  have m1 : FK.M (partF p) ≤ FK.M t := (FK.M_mono_iff (by omega) hp9).2 q3
  clear ht
  have m2 : stepR k p ≤ FK.R (FK.M (stepF k) + FK.M t) := FK.R_mono (by omega)
  have m3 : stepF k ≤ stepR k p := by
    have h : FK.R (FK.M (stepF k)) ≤ stepR k p := FK.R_mono (by omega)
    rwa [FK.R_M _ s2] at h
  have hs : FK.sr (stepF k) ≤ FK.sr (stepR k p) := by rw [sr_of s2, sr_of (by omega)]; omega
  have hs2 : FK.sr (stepR k p) ≤ FK.sr (FK.R (FK.M (stepF k) + FK.M t)) := by rw [sr_of (by omega), sr_of s5]; omega
  have a1 := axis_mono (by rw [rg_of s2]; omega) (by rw [rg_of (by omega)]; omega) hs
  have a2 := axis_mono (by rw [rg_of (by omega)]; omega) (by rw [rg_of s5]; omega) hs2
  refine ⟨s1, q1, q2, ?_, by omega, by omega, s4, by omega, by omega⟩
  rw [FK.add_fin _ _ (by rw [rg_of s2]; exact s2) (by rw [rg_of (by omega)]; omega), V_of s2, V_of (by omega), if_neg (by omega)]
  rw [show decide ((FK.M (stepF k) : Int) + FK.M (partF p) < 0) = false by simp; omega]
  rw [show ((FK.M (stepF k) : Int) + FK.M (partF p)).natAbs = FK.M (stepF k) + FK.M (partF p) by omega]
  unfold FK.mkw
  rw [if_neg Bool.false_ne_true]
  unfold stepR
  rfl

theorem u64_rng (n : Int) : 0 ≤ IntKind.u64.wrap n ∧ IntKind.u64.wrap n < 18446744073709551616 := by simp [IntKind.wrap, IntKind.bits, IntKind.signed]; omega
set_option maxHeartbeats 2000000 in
theorem steps_walk (n part : Int) (k p : Nat) (k0 : 16 ≤ k) (k1 : k ≤ 127) (p1 : p < 100) (hk : 16 + IntKind.u64.wrap n % 112 = k) (hp : IntKind.u64.wrap part % 100 = p) (w : World) :
    Calls Try.prog 7 #[.int .i64 n, .int .i64 part] w fun e w' => e = .returned (.bool true) ∧ Below w.heap.size w w' := by
  have h := step_at k p k0 k1 p1
  have x1 := fun (W : World) => run_float_arith (P := Try.prog) W .quo 23 .f64 _ _ _ h.divF
  have x2 := fun (W : World) => run_float_arith (P := Try.prog) W .quo 23 .f64 _ _ _ h.divQ
  have x3 := fun (W : World) => run_float_arith (P := Try.prog) W .quo 23 .f64 _ _ _ h.divP
  have x4 := fun (W : World) => run_float_arith (P := Try.prog) W .add 23 .f64 _ _ _ h.add
  have H := Lib.hid h
  have hl1 := axis_lo (stepR k p)
  have hl2 := h.lo
  have hl3 := h.hi
  have hu := u64_rng n
  have hu2 := u64_rng part
  have e0 : (IntKind.u64.wrap n).tmod 112 = (k : Int) - 16 := by rw [Int.tmod_eq_emod_of_nonneg hu.1]; omega
  have e1 : wrap64 (16 + wrap64 ((IntKind.u64.wrap n).tmod 112)) = (k : Int) := by rw [e0]; simp [wrap64]; omega
  have e2 : (IntKind.u64.wrap part).tmod 100 = (p : Int) := by rw [Int.tmod_eq_emod_of_nonneg hu2.1]; omega
  have w8 : IntKind.i8.wrap (k : Int) = k := i8_wrap (by omega) (by omega)
  have w9 : IntKind.i8.wrap (-(k : Int)) = -k := i8_wrap (by omega) (by omega)
  have FB := Lib.hid h.fF
  have GB := Lib.hid h.fG
  have NB := Lib.hid (nf_lt h.fF)
  have AF := Lib.hid h.aF
  have AN := Lib.hid (axisF_neg (stepF k))
  have hm : mayB (k : Int) 0 = true := by unfold mayB; simp; try omega
  have HM := Lib.hid hm
  clear h hk hp e0 hu hu2 hm
  go_enter Try.func7, Try.ntmps7
  go_wp2_with fail
  refine (axis_any _ GB.out _).mono ?_
  rintro e w' ⟨rfl, rfl⟩
  generalize hg : axisF (stepR k p) = g at *
  go_wp2_with fail
  refine (regrown0 (told_law _)).mono ?_
  rintro e w' ⟨rfl, ⟨d1, o1⟩, rfl⟩
  go_wp2_with fail
  refine (axis_any _ FB.out _).mono ?_
  rintro e w' ⟨rfl, rfl⟩
  rw [AF.out]
  go_wp2_with fail
  refine (axis_any _ NB.out _).mono ?_
  rintro e w' ⟨rfl, rfl⟩
  rw [AN.out, AF.out]
  have q9 : (k : Int) = g ∨ (g = k + 1 ∧ k < 127) := by omega
  have wg : wrap64 g = g := by simp [wrap64]; omega
  have wk : wrap64 ((k : Int) + 1) = k + 1 := by simp [wrap64]; omega
  have tm : Calls Try.prog 16 #[.agg #[.int .i8 (k : Int), .int .i8 0, .int .u8 0]] (Sort.grow (redrawn w d1) o1) fun e w'' => e = .returned (.bool true) ∧ ∃ p : Regrown, w'' = Sort.grow (redrawn w p.d) p.os := HM.out ▸ Calls.regrown_of (may_any _ _ _ _)
  have TM := Lib.hid tm
  clear tm hg
  rcases q9 with rfl | ⟨rfl, h7⟩
  · go_wp2_with fail
    refine TM.out.mono ?_
    rintro e w' ⟨rfl, ⟨d2, o2⟩, rfl⟩
    go_wp2_with fail
    go_ret
    exact ⟨rfl, below_regrown w _ _⟩
  · go_wp2_with fail
    refine TM.out.mono ?_
    rintro e w' ⟨rfl, ⟨d2, o2⟩, rfl⟩
    go_wp2_with fail
    go_ret
    exact ⟨rfl, below_regrown w _ _⟩
theorem law_StickSteps (a0 a1 : Int) (w0 : (Lit.int .i64 a0).wf = true) (w1 : (Lit.int .i64 a1).wf = true) (w : World) :
    Calls Try.prog 7 #[.int .i64 a0, .int .i64 a1] w fun e w' => e = .returned (.bool true) ∧ Below w.heap.size w w' := by
  have hu := u64_rng a0
  have hu2 := u64_rng a1
  exact steps_walk a0 a1 (16 + IntKind.u64.wrap a0 % 112).toNat (IntKind.u64.wrap a1 % 100).toNat (by omega) (by omega) (by omega) (by omega) (by omega) w
end Go.Proofs.Ytbgliebmdjjmaaa
