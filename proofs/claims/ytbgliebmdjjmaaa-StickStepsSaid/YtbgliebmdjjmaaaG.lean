/-
  Stick: what Read hands back; the Go text of StickMay returns true for every input.
-/
import Derived.Test.YtbgliebmdjjmaaaC
namespace Go.Proofs.Ytbgliebmdjjmaaa
set_option linter.unusedVariables false
open Go.ChangeShapes Go.WideShapes Go.ChangeAt Go.RowKit
attribute [local go_sem] run_neg_f64

theorem i8_wrap {z : Int} (a : -128 ≤ z) (b : z ≤ 127) : IntKind.i8.wrap z = z := by simp [IntKind.wrap, IntKind.bits, IntKind.signed]; omega
theorem axisF_neg (x : Nat) : axisF (Op.negFloat .f64 x) = -axisF x := by
  unfold axisF
  rw [FK.rg_neg, FK.sg_neg]
  cases FK.sg x <;> simp <;> (repeat' split) <;> omega
theorem axisF_nan (x : Nat) (h : (fo x x == some .eq) = false) : axisF x = 0 := by
  unfold axisF
  by_cases h1 : 9218868437227405312 < FK.rg x
  · rw [if_pos h1]
  · have := FK.eq_iff (x := x) (y := x) (by omega) (by omega)
    rw [show (fo x x == some .eq) = (Ieee.double.order x x == some .eq) from rfl, this] at h
    simp at h
theorem nf_lt {x : Nat} (h : x < 18446744073709551616) : Op.negFloat .f64 x < 18446744073709551616 := by
  have e : Op.negFloat .f64 x = x ^^^ 2 ^ 63 := rfl
  rw [e]
  exact Nat.xor_lt_two_pow (n := 64) h (by decide)
theorem u8_bd {a : Int} (h : (Lit.int .u8 a).wf = true) : 0 ≤ a ∧ a ≤ 255 := bounds_u8 h
theorem f64_bd' {a : Nat} (h : (Lit.float .f64 a).wf = true) : a < 18446744073709551616 := by simpa [Lit.wf] using h

theorem grow_self (w : World) : Sort.grow (redrawn w w.drawn) #[] = w := by
  cases w; simp [Sort.grow, redrawn]
theorem regrown0 {f : Nat} {a : Array Value} {r : Value} {w : World} (h : Calls Try.prog f a w fun e w' => e = .returned r ∧ Below w.heap.size w w') :
    Calls Try.prog f a w fun e w' => e = .returned r ∧ ∃ p : Regrown, w' = Sort.grow (redrawn w p.d) p.os := by
  have := Calls.regrown_of (w := w) (d := w.drawn) (os := #[]) (by rw [grow_self]; exact h)
  rw [grow_self] at this
  exact this
theorem or_or {A : Bool} {q : Int} (h : A = false → q = 0) : (A || q == 0) = true := by
  cases A
  · rw [h rfl]; rfl
  · rfl
theorem read_any (x y : Nat) (b : Int) (hx : x < 18446744073709551616) (hy : y < 18446744073709551616) (w : World) :
    Calls Try.prog 17 #[.float .f64 x, .float .f64 y, .int .u8 b] w fun e w' => e = .returned (.agg #[.int .i8 (axisF x), .int .i8 (axisF y), .int .u8 b]) ∧ w' = w.alloc (.cells #[.int .i8 (axisF x), .int .i8 (axisF y), .int .u8 b] 36) := by
  go_enter Try.func17, Try.ntmps17
  go_wp2_with fail
  refine (axis_any _ hx _).mono ?_
  rintro e w' ⟨rfl, rfl⟩
  go_wp2_with fail
  refine (axis_any _ hy _).mono ?_
  rintro e w' ⟨rfl, rfl⟩
  go_wp2_with fail
  refine bodyPost_ret (v := .agg #[.int .i8 (axisF x), .int .i8 (axisF y), .int .u8 b]) (by simp [results, Try.results17, go_sem]) rfl ⟨rfl, rfl⟩

set_option maxHeartbeats 2000000 in
theorem may_t (x y : Nat) (b : Int) (hx : x < 18446744073709551616) (hy : y < 18446744073709551616)  (w : World) :
    Calls Try.prog 9 #[.float .f64 x, .float .f64 y, .int .u8 b] w fun e w' => e = .returned (.bool true) ∧ Below w.heap.size w w' := by
  have hlo := axis_lo x
  have hlo2 := axis_lo y
  have HN := Lib.hid (axisF_neg x)
  have PN := Lib.hid (axisF_nan x)
  have QN := Lib.hid (axisF_nan y)
  have hw1 : IntKind.i8.wrap (-axisF x) = -axisF x := i8_wrap (by omega) (by omega)
  have HW := Lib.hid hw1
  have HX := Lib.hid hx
  have HXN := Lib.hid (nf_lt hx)
  have HY := Lib.hid hy
  clear hx hy hw1
  go_enter Try.func9, Try.ntmps9
  go_wp2_with fail
  refine (read_any _ _ _ HX.out HY.out _).mono ?_
  rintro e w' ⟨rfl, rfl⟩
  generalize hp : axisF x = p at *
  generalize hq : axisF y = q at *
  have HP := Lib.hid hp
  have HQ := Lib.hid hq
  clear hp hq
  have hm : mayB p q = true := by unfold mayB; simp; omega
  have HM := Lib.hid hm
  clear hm
  have hB : Below w.heap.size w (w.alloc (.cells #[.int .i8 p, .int .i8 q, .int .u8 b] 36)) := (Below.refl _ _).alloc (Nat.le_refl _) _
  go_wp2_with fail
  have c0 : ((w.alloc (.cells #[.int .i8 p, .int .i8 q, .int .u8 b] 36)).alloc (.cells #[.int .i8 p, .int .i8 q, .int .u8 b] 36)).cell? ⟨w.heap.size + 1, 0, none⟩ = some (.int .i8 p) := by go_simp
  have c1 : ((w.alloc (.cells #[.int .i8 p, .int .i8 q, .int .u8 b] 36)).alloc (.cells #[.int .i8 p, .int .i8 q, .int .u8 b] 36)).cell? ⟨w.heap.size + 1, 1, none⟩ = some (.int .i8 q) := by go_simp
  have c2 : ((w.alloc (.cells #[.int .i8 p, .int .i8 q, .int .u8 b] 36)).alloc (.cells #[.int .i8 p, .int .i8 q, .int .u8 b] 36)).cell? ⟨w.heap.size + 1, 2, none⟩ = some (.int .u8 b) := by go_simp
  have hB2 := hB.alloc (by simp) (.cells #[.int .i8 p, .int .i8 q, .int .u8 b] 36)
  clear hB
  generalize ((w.alloc _).alloc _) = w1 at c0 c1 c2 hB2 ⊢
  have k0 := cell_regrown c0
  have k1 := cell_regrown c1
  have k2 := cell_regrown c2
  have hsz := hB2.size
  have HB := Lib.hid hB2
  have HSZ := Lib.hid hsz
  clear c0 c1 c2 hB2 hsz
  refine (regrown0 (told_law _)).mono ?_
  rintro e w' ⟨rfl, ⟨d1, o1⟩, rfl⟩
  go_wp2_with fail
  refine (Calls.regrown_of (may_any _ _ _ _)).mono ?_
  rintro e w' ⟨rfl, ⟨d2, o2⟩, rfl⟩
  rw [HM.out]
  go_wp2_with fail
  refine (axis_any _ HXN.out _).mono ?_
  rintro e w' ⟨rfl, rfl⟩
  rw [HN.out]
  go_wp2_with fail
  refine (axis_any _ HX.out _).mono ?_
  rintro e w' ⟨rfl, rfl⟩
  rw [HP.out]
  go_wp2_with fail
  all_goals (go_ret; refine ⟨ret_bool ?_, below_of_regrown HB.out HSZ.out _ _⟩)
  all_goals first | rfl | exact or_or QN.out | exact absurd (PN.out (by simpa using ‹¬FloatKind.f64.format.order x x = some Ordering.eq›)) ‹¬p = 0›
theorem law_StickMay (a0 a1 : Nat) (a2 : Int) (w0 : (Lit.float .f64 a0).wf = true) (w1 : (Lit.float .f64 a1).wf = true) (w2 : (Lit.int .u8 a2).wf = true) (w : World) :
    Calls Try.prog 9 #[.float .f64 a0, .float .f64 a1, .int .u8 a2] w fun e w' => e = .returned (.bool true) ∧ Below w.heap.size w w' :=
  may_t a0 a1 a2 (f64_bd' w0) (f64_bd' w1) w
end Go.Proofs.Ytbgliebmdjjmaaa
