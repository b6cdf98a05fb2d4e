/-
  Stick: the Go text of StickRises returns true for every input.
-/
import Derived.Test.YtbgliebmdjjmaaaC
namespace Go.Proofs.Ytbgliebmdjjmaaa
set_option linter.unusedVariables false
open Go.ChangeShapes Go.WideShapes Go.ChangeAt Go.RowKit
attribute [local go_sem] run_neg_f64

def gF (r : Nat) : Int := if FK.r1 ≤ r then 127 else if r < FK.r8 then 0 else FK.A r
theorem gF_mono {r s : Nat} (h : r ≤ s) : gF r ≤ gF s := by
  unfold gF
  by_cases h1 : FK.r1 ≤ s
  · rw [if_pos h1]
    by_cases h2 : FK.r1 ≤ r
    · rw [if_pos h2]; omega
    · rw [if_neg h2]
      by_cases h3 : r < FK.r8
      · rw [if_pos h3]; omega
      · rw [if_neg h3]; have := FK.A_bd (r := r) (by omega) (by omega); omega
  · rw [if_neg h1, if_neg (by omega)]
    by_cases h3 : r < FK.r8
    · rw [if_pos h3]
      by_cases h4 : s < FK.r8
      · rw [if_pos h4]; omega
      · rw [if_neg h4]; have := FK.A_bd (r := s) (by omega) (by omega); omega
    · rw [if_neg h3, if_neg (by omega)]
      have := FK.A_mono h (by omega)
      omega
theorem gF_zero : gF 0 = 0 := by decide +kernel
theorem axis_gF (f : Nat) (h : FK.rg f ≤ 9218868437227405312) : axisF f = if FK.sg f then -gF (FK.rg f) else gF (FK.rg f) := by
  unfold axisF gF
  rw [if_neg (by omega)]
  by_cases h1 : FK.r1 ≤ FK.rg f
  · rw [if_pos h1, if_pos h1]
  · rw [if_neg h1, if_neg h1]
    by_cases h2 : FK.rg f < FK.r8
    · rw [if_pos h2, if_pos h2]; split <;> rfl
    · rw [if_neg h2, if_neg h2]
theorem axis_mono {x y : Nat} (hx : FK.rg x ≤ 9218868437227405312) (hy : FK.rg y ≤ 9218868437227405312) (h : FK.sr x ≤ FK.sr y) : axisF x ≤ axisF y := by
  rw [axis_gF x hx, axis_gF y hy]
  have z := gF_zero
  have p1 := gF_mono (Nat.zero_le (FK.rg x))
  have p2 := gF_mono (Nat.zero_le (FK.rg y))
  have m1 : FK.rg x ≤ FK.rg y → gF (FK.rg x) ≤ gF (FK.rg y) := gF_mono
  have m2 : FK.rg y ≤ FK.rg x → gF (FK.rg y) ≤ gF (FK.rg x) := gF_mono
  have e1 : FK.rg x = 0 → gF (FK.rg x) = 0 := fun e => by rw [e, z]
  have e2 : FK.rg y = 0 → gF (FK.rg y) = 0 := fun e => by rw [e, z]
  unfold FK.sr at h
  generalize FK.sg x = p at *
  generalize FK.sg y = q at *
  cases p <;> cases q <;> simp at h ⊢ <;> omega

theorem f64_bd {a : Nat} (h : (Lit.float .f64 a).wf = true) : a < 18446744073709551616 := by simpa [Lit.wf] using h
theorem nan_ne {x : Nat} (h : 9218868437227405312 < FK.rg x) (y : Nat) : fo x y = none := by
  show Ieee.double.order x y = none
  unfold Ieee.Format.order
  rw [FK.read_nan x h]
  cases Ieee.double.read y <;> rfl

set_option maxHeartbeats 1000000 in
theorem rises_nx (a0 a1 : Nat) (a00 : a0 < 18446744073709551616) (a10 : a1 < 18446744073709551616) (h1 : (fo a0 a0 != some .eq) = true) (h2 : (fo a0 a0 == some .eq) = false) (h3 : axisF a0 = 0) (w : World) :
    Calls Try.prog 4 #[.float .f64 a0, .float .f64 a1] w fun e w' => e = .returned (.bool true) ∧ Below w.heap.size w w' := by
  have H3 := Lib.hid h3
  clear h3
  have A0 := Lib.hid a00
  have A1 := Lib.hid a10
  clear a00 a10
  go_enter Try.func4, Try.ntmps4
  go_wp2_with fail
  refine (told_law _).mono ?_
  rintro e w' ⟨rfl, hB⟩
  go_wp2_with fail
  refine (axis_any _ A0.out _).mono ?_
  rintro e w' ⟨rfl, rfl⟩
  rw [H3.out]
  go_wp2_with fail
  go_ret
  exact ⟨rfl, hB⟩
set_option maxHeartbeats 1000000 in
theorem rises_ny (a0 a1 : Nat) (a00 : a0 < 18446744073709551616) (a10 : a1 < 18446744073709551616) (h1 : (fo a0 a0 != some .eq) = false) (h2 : (fo a0 a0 == some .eq) = true) (h3 : (fo a1 a1 != some .eq) = true) (w : World) :
    Calls Try.prog 4 #[.float .f64 a0, .float .f64 a1] w fun e w' => e = .returned (.bool true) ∧ Below w.heap.size w w' := by
  have A0 := Lib.hid a00
  have A1 := Lib.hid a10
  clear a00 a10
  go_enter Try.func4, Try.ntmps4
  go_wp2_with fail
  refine (told_law _).mono ?_
  rintro e w' ⟨rfl, hB⟩
  go_wp2_with fail
  go_ret
  exact ⟨rfl, hB⟩
set_option maxHeartbeats 1000000 in
theorem rises_gt (a0 a1 : Nat) (a00 : a0 < 18446744073709551616) (a10 : a1 < 18446744073709551616) (h1 : (fo a0 a0 != some .eq) = false) (h3 : (fo a1 a1 != some .eq) = false) (g : (fo a0 a1 == some .gt) = true) (l : (fo a0 a1 == some .lt) = false) (m : axisF a1 ≤ axisF a0) (w : World) :
    Calls Try.prog 4 #[.float .f64 a0, .float .f64 a1] w fun e w' => e = .returned (.bool true) ∧ Below w.heap.size w w' := by
  have A0 := Lib.hid a00
  have A1 := Lib.hid a10
  clear a00 a10
  go_enter Try.func4, Try.ntmps4
  go_wp2_with fail
  refine (axis_any _ A0.out _).mono ?_
  rintro e w' ⟨rfl, rfl⟩
  go_wp2_with fail
  refine (axis_any _ A1.out _).mono ?_
  rintro e w' ⟨rfl, rfl⟩
  go_wp2_with fail
  refine (told_law _).mono ?_
  rintro e w' ⟨rfl, hB⟩
  go_wp2_with fail
  go_ret
  exact ⟨rfl, hB⟩
set_option maxHeartbeats 1000000 in
theorem rises_lt (a0 a1 : Nat) (a00 : a0 < 18446744073709551616) (a10 : a1 < 18446744073709551616) (h1 : (fo a0 a0 != some .eq) = false) (h3 : (fo a1 a1 != some .eq) = false) (g : (fo a0 a1 == some .gt) = false) (l : (fo a0 a1 == some .lt) = true) (m : axisF a0 ≤ axisF a1) (w : World) :
    Calls Try.prog 4 #[.float .f64 a0, .float .f64 a1] w fun e w' => e = .returned (.bool true) ∧ Below w.heap.size w w' := by
  have A0 := Lib.hid a00
  have A1 := Lib.hid a10
  clear a00 a10
  go_enter Try.func4, Try.ntmps4
  go_wp2_with fail
  refine (axis_any _ A0.out _).mono ?_
  rintro e w' ⟨rfl, rfl⟩
  go_wp2_with fail
  refine (axis_any _ A1.out _).mono ?_
  rintro e w' ⟨rfl, rfl⟩
  go_wp2_with fail
  refine (told_law _).mono ?_
  rintro e w' ⟨rfl, hB⟩
  go_wp2_with fail
  go_ret
  exact ⟨rfl, hB⟩
set_option maxHeartbeats 1000000 in
theorem rises_eq (a0 a1 : Nat) (a00 : a0 < 18446744073709551616) (a10 : a1 < 18446744073709551616) (h1 : (fo a0 a0 != some .eq) = false) (h3 : (fo a1 a1 != some .eq) = false) (g : (fo a0 a1 == some .gt) = false) (l : (fo a0 a1 == some .lt) = false) (m : axisF a0 ≤ axisF a1) (m2 : axisF a1 ≤ axisF a0) (w : World) :
    Calls Try.prog 4 #[.float .f64 a0, .float .f64 a1] w fun e w' => e = .returned (.bool true) ∧ Below w.heap.size w w' := by
  have A0 := Lib.hid a00
  have A1 := Lib.hid a10
  clear a00 a10
  go_enter Try.func4, Try.ntmps4
  go_wp2_with fail
  refine (axis_any _ A0.out _).mono ?_
  rintro e w' ⟨rfl, rfl⟩
  go_wp2_with fail
  refine (axis_any _ A1.out _).mono ?_
  rintro e w' ⟨rfl, rfl⟩
  go_wp2_with fail
  refine (told_law _).mono ?_
  rintro e w' ⟨rfl, hB⟩
  go_wp2_with fail
  go_ret
  exact ⟨rfl, hB⟩

theorem law_StickRises (a0 a1 : Nat) (w0 : (Lit.float .f64 a0).wf = true) (w1 : (Lit.float .f64 a1).wf = true) (w : World) :
    Calls Try.prog 4 #[.float .f64 a0, .float .f64 a1] w fun e w' => e = .returned (.bool true) ∧ Below w.heap.size w w' := by
  have a00 := f64_bd w0
  have a10 := f64_bd w1
  by_cases h0 : 9218868437227405312 < FK.rg a0
  · exact rises_nx a0 a1 a00 a10 (by rw [nan_ne h0]; rfl) (by rw [nan_ne h0]; rfl) (by unfold axisF; rw [if_pos h0]) w
  have s0 : (fo a0 a0 != some .eq) = false := FK.eq_self a0 (by omega)
  by_cases h1 : 9218868437227405312 < FK.rg a1
  · refine rises_ny a0 a1 a00 a10 s0 ?_ (by rw [nan_ne h1]; rfl) w
    have := FK.eq_iff (x := a0) (y := a0) (by omega) (by omega)
    show (Ieee.double.order a0 a0 == some .eq) = true
    rw [this]; simp
  have s1 : (fo a1 a1 != some .eq) = false := FK.eq_self a1 (by omega)
  have g : (fo a0 a1 == some .gt) = decide (FK.sr a1 < FK.sr a0) := FK.gt_iff (by omega) (by omega)
  have l : (fo a0 a1 == some .lt) = decide (FK.sr a0 < FK.sr a1) := FK.lt_iff (by omega) (by omega)
  by_cases c1 : FK.sr a1 < FK.sr a0
  · exact rises_gt a0 a1 a00 a10 s0 s1 (by rw [g]; simp [c1]) (by rw [l]; simp; omega) (axis_mono (by omega) (by omega) (by omega)) w
  by_cases c2 : FK.sr a0 < FK.sr a1
  · exact rises_lt a0 a1 a00 a10 s0 s1 (by rw [g]; simp; omega) (by rw [l]; simp [c2]) (axis_mono (by omega) (by omega) (by omega)) w
  · exact rises_eq a0 a1 a00 a10 s0 s1 (by rw [g]; simp [c1]) (by rw [l]; simp [c2]) (axis_mono (by omega) (by omega) (by omega)) (axis_mono (by omega) (by omega) (by omega)) w
end Go.Proofs.Ytbgliebmdjjmaaa
