/-
  Stats: the least and the greatest of two floats, by package math.
-/
import Derived.Test.YtoefnagenooaiaaM
namespace Go.Proofs.Ytoefnagenooaiaa
set_option linter.unusedVariables false
open Go.ChangeShapes Go.WideShapes Go.ChangeAt Go.RowKit

theorem read_pos {x : Nat} (hx : x ≤ 9218868437227405312) : FloatKind.f64.decode x = .infinity false ∨ FloatKind.f64.decode x = .number false (FK.mg x) (FK.pl x) := by
  by_cases h : x < 9218868437227405312
  · have w := FK.w_pos h
    have e := FK.read_fin x (by rw [w.1]; exact h)
    rw [w.1, w.2] at e
    exact Or.inr e
  · have : x = 9218868437227405312 := by omega
    subst this
    have e := FK.read_inf 9218868437227405312 (by decide)
    have s : FK.sg 9218868437227405312 = false := by decide
    rw [s] at e
    exact Or.inl e
theorem pick_min {x y : Nat} (hx : x ≤ 9218868437227405312) (hy : y < 9218868437227405312) : Extern.MathDim.pick "math.archMin" true .lt #[.float .f64 x, .float .f64 y] = pure (.float .f64 (min x y)) := by
  have ho : (FloatKind.f64.decode x).order (FloatKind.f64.decode y) = some (compare (x : Int) y) := ord_pos hx (by omega)
  have r1 := read_pos hx
  have r2 : FloatKind.f64.decode y = .number false (FK.mg y) (FK.pl y) := by
    have w := FK.w_pos hy
    have e := FK.read_fin y (by rw [w.1]; exact hy)
    rw [w.1, w.2] at e
    exact e
  show pure (Value.float FloatKind.f64 (if (FloatKind.f64.decode x == .infinity true || FloatKind.f64.decode y == .infinity true) = true then _ else if ((FloatKind.f64.decode x).isNaN || (FloatKind.f64.decode y).isNaN) = true then _ else if ((FloatKind.f64.decode x).isZero && (FloatKind.f64.decode y).isZero) = true then (if ((FloatKind.f64.decode x).neg == true) = true then x else y) else if ((FloatKind.f64.decode x).order (FloatKind.f64.decode y) == some .lt) = true then x else y)) = _
  rw [ho]
  have c1 : (FloatKind.f64.decode x == .infinity true || FloatKind.f64.decode y == .infinity true) = false := by
    rw [r2]; rcases r1 with e | e <;> rw [e] <;> rfl
  have c2 : ((FloatKind.f64.decode x).isNaN || (FloatKind.f64.decode y).isNaN) = false := by
    rw [r2]; rcases r1 with e | e <;> rw [e] <;> rfl
  have c4 : ((FloatKind.f64.decode x).neg == true) = false := by
    rcases r1 with e | e <;> rw [e] <;> rfl
  rw [c1, c2, c4]
  simp only [Bool.false_eq_true, if_false]
  congr 2
  by_cases c3 : ((FloatKind.f64.decode x).isZero && (FloatKind.f64.decode y).isZero) = true
  · rw [if_pos c3]
    have hy0 : FK.mg y = 0 := by
      rw [r2] at c3
      simp only [Bool.and_eq_true] at c3
      have := c3.2
      unfold Ieee.Datum.isZero at this
      cases hm : FK.mg y with
      | zero => rfl
      | succ k => rw [hm] at this; simp at this
    have := FK.mg_zero hy0
    omega
  · rw [if_neg c3]
    rcases cmp_cases (x : Int) (y : Int) with ⟨h, e⟩ | ⟨h, e⟩ | ⟨h, e⟩ <;> rw [e] <;> simp <;> omega
theorem pick_max {x y : Nat} (hx : x < 9218868437227405312) (hy : y < 9218868437227405312) : Extern.MathDim.pick "math.archMax" false .gt #[.float .f64 x, .float .f64 y] = pure (.float .f64 (max x y)) := by
  have ho : (FloatKind.f64.decode x).order (FloatKind.f64.decode y) = some (compare (x : Int) y) := ord_pos (by omega) (by omega)
  have r1 : FloatKind.f64.decode x = .number false (FK.mg x) (FK.pl x) := by
    have w := FK.w_pos hx
    have e := FK.read_fin x (by rw [w.1]; exact hx)
    rw [w.1, w.2] at e
    exact e
  have r2 : FloatKind.f64.decode y = .number false (FK.mg y) (FK.pl y) := by
    have w := FK.w_pos hy
    have e := FK.read_fin y (by rw [w.1]; exact hy)
    rw [w.1, w.2] at e
    exact e
  show pure (Value.float FloatKind.f64 (if (FloatKind.f64.decode x == .infinity false || FloatKind.f64.decode y == .infinity false) = true then _ else if ((FloatKind.f64.decode x).isNaN || (FloatKind.f64.decode y).isNaN) = true then _ else if ((FloatKind.f64.decode x).isZero && (FloatKind.f64.decode y).isZero) = true then (if ((FloatKind.f64.decode x).neg == false) = true then x else y) else if ((FloatKind.f64.decode x).order (FloatKind.f64.decode y) == some .gt) = true then x else y)) = _
  rw [ho]
  have c1 : (FloatKind.f64.decode x == .infinity false || FloatKind.f64.decode y == .infinity false) = false := by
    rw [r2]; rw [r1]; rfl
  have c2 : ((FloatKind.f64.decode x).isNaN || (FloatKind.f64.decode y).isNaN) = false := by
    rw [r2]; rw [r1]; rfl
  have c4 : ((FloatKind.f64.decode x).neg == false) = true := by
    rw [r1]; rfl
  rw [c1, c2, c4]
  simp only [Bool.false_eq_true, if_false, if_true]
  congr 2
  by_cases c3 : ((FloatKind.f64.decode x).isZero && (FloatKind.f64.decode y).isZero) = true
  · rw [if_pos c3]
    have hy0 : FK.mg y = 0 := by
      rw [r2] at c3
      simp only [Bool.and_eq_true] at c3
      have := c3.2
      unfold Ieee.Datum.isZero at this
      cases hm : FK.mg y with
      | zero => rfl
      | succ k => rw [hm] at this; simp at this
    have := FK.mg_zero hy0
    omega
  · rw [if_neg c3]
    rcases cmp_cases (x : Int) (y : Int) with ⟨h, e⟩ | ⟨h, e⟩ | ⟨h, e⟩ <;> rw [e] <;> simp <;> omega

theorem pick_max_inf {y : Nat} (hy : y < 9218868437227405312) : Extern.MathDim.pick "math.archMax" false .gt #[.float .f64 18442240474082181120, .float .f64 y] = pure (.float .f64 y) := by
  have r1 : FloatKind.f64.decode 18442240474082181120 = .infinity true := by decide +kernel
  have r2 : FloatKind.f64.decode y = .number false (FK.mg y) (FK.pl y) := by
    have w := FK.w_pos hy
    have e := FK.read_fin y (by rw [w.1]; exact hy)
    rw [w.1, w.2] at e
    exact e
  show pure (Value.float FloatKind.f64 (if (FloatKind.f64.decode 18442240474082181120 == .infinity false || FloatKind.f64.decode y == .infinity false) = true then _ else if ((FloatKind.f64.decode 18442240474082181120).isNaN || (FloatKind.f64.decode y).isNaN) = true then _ else if ((FloatKind.f64.decode 18442240474082181120).isZero && (FloatKind.f64.decode y).isZero) = true then (if ((FloatKind.f64.decode 18442240474082181120).neg == false) = true then 18442240474082181120 else y) else if ((FloatKind.f64.decode 18442240474082181120).order (FloatKind.f64.decode y) == some .gt) = true then 18442240474082181120 else y)) = _
  rw [r1, r2]
  rfl

theorem archmin_run (x y r : Nat) (h : Extern.MathDim.pick "math.archMin" true .lt #[.float .f64 x, .float .f64 y] = pure (.float .f64 r)) (w : World) : (callFunc 40 #[.float .f64 x, .float .f64 y]).run Try.prog w = .ok (.value (.float .f64 r)) w := by
  rw [run_callFunc_extern (f := 40) (fn := Try.f40) (e := Extern.MathDim.pick "math.archMin" true .lt) (by kernel_rfl) (by kernel_rfl) (by kernel_rfl) (by kernel_rfl) (by kernel_rfl)]
  rw [h]; rfl
theorem min_any (x y r : Nat) (h : Extern.MathDim.pick "math.archMin" true .lt #[.float .f64 x, .float .f64 y] = pure (.float .f64 r)) (w : World) :
    Calls Try.prog 23 #[.float .f64 x, .float .f64 y] w fun e w' => e = .returned (.float .f64 r) ∧ w = w' := by
  have hr := archmin_run x y r h
  clear h
  go_enter Try.func23, Try.ntmps23
  go_wp2
  go_ret
  exact ⟨rfl, rfl⟩

theorem archmax_run (x y r : Nat) (h : Extern.MathDim.pick "math.archMax" false .gt #[.float .f64 x, .float .f64 y] = pure (.float .f64 r)) (w : World) : (callFunc 42 #[.float .f64 x, .float .f64 y]).run Try.prog w = .ok (.value (.float .f64 r)) w := by
  rw [run_callFunc_extern (f := 42) (fn := Try.f42) (e := Extern.MathDim.pick "math.archMax" false .gt) (by kernel_rfl) (by kernel_rfl) (by kernel_rfl) (by kernel_rfl) (by kernel_rfl)]
  rw [h]; rfl
theorem max_any (x y r : Nat) (h : Extern.MathDim.pick "math.archMax" false .gt #[.float .f64 x, .float .f64 y] = pure (.float .f64 r)) (w : World) :
    Calls Try.prog 25 #[.float .f64 x, .float .f64 y] w fun e w' => e = .returned (.float .f64 r) ∧ w = w' := by
  have hr := archmax_run x y r h
  clear h
  go_enter Try.func25, Try.ntmps25
  go_wp2
  go_ret
  exact ⟨rfl, rfl⟩
end Go.Proofs.Ytoefnagenooaiaa
