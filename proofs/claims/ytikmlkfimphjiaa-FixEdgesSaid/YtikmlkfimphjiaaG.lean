/-
  Fixed point: the Go text of FixBack returns true for every input.
-/
import Derived.Test.YtikmlkfimphjiaaF
namespace Go.Proofs.Ytikmlkfimphjiaa
set_option linter.unusedVariables false
open Go.ChangeShapes Go.WideShapes Go.ChangeAt Go.RowKit
open FK (D Wr)

theorem max_D : (4746794007244308480 : Nat) = D 2147483647 0 := by decide +kernel
theorem min_D : (13970166044103278592 : Nat) = D (-2147483648) 0 := by decide +kernel

theorem cmp_ge (x y : Int) : (some (compare x y) == some Ordering.gt || some (compare x y) == some Ordering.eq) = decide (y ≤ x) := by
  by_cases h : x < y
  · rw [FK.cmp_lt h]; simp; omega
  · by_cases h2 : x = y
    · rw [FK.cmp_eq h2]; simp; omega
    · rw [FK.cmp_gt (by omega)]; simp; omega
theorem cmp_le (x y : Int) : (some (compare x y) == some Ordering.lt || some (compare x y) == some Ordering.eq) = decide (x ≤ y) := by
  by_cases h : x < y
  · rw [FK.cmp_lt h]; simp; omega
  · by_cases h2 : x = y
    · rw [FK.cmp_eq h2]; simp; omega
    · rw [FK.cmp_gt (by omega)]; simp; omega

def ofV (n P : Int) : Int := if 2147483647 * P ≤ n then 2147483647 else if n ≤ -2147483648 * P then -2147483648 else if n < 0 then -((n.natAbs / P.natAbs : Nat) : Int) else ((n.natAbs / P.natAbs : Nat) : Int)

theorem of_D (n : Int) (k : Nat) (hk : k ≤ 20) (hn : n.natAbs < 9007199254740992) (w : World) :
    Calls Try.prog 24 #[.float .f64 (D n (-(k : Int) - 16))] w fun e w' => e = .returned (.int .i32 (ofV n (2 ^ k))) ∧ w = w' := by
  have hw : Wr n (-(k : Int) - 16) := ⟨hn, by omega, by omega⟩
  have hv : Wr n (-(k : Int)) := ⟨hn, by omega, by omega⟩
  have hm : floatBits .mul .f64 (D n (-(k : Int) - 16)) 4679240012837945344 = some (D n (-(k : Int))) := by
    have := FK.mulK hw
    rw [show -(k : Int) - 16 + 16 = -(k : Int) by omega] at this
    exact this
  have hf := FK.fin_D hv
  have hnan : (fo (D n (-(k : Int))) (D n (-(k : Int))) != some .eq) = false := FK.eq_self _ (by omega)
  have hp : (2 : Int) ^ k ≤ 1048576 := pow_le' (j := 20) hk
  have hp0 := pow_pos' k
  have e1 : fo (D n (-(k : Int))) 4746794007244308480 = some (compare n (2147483647 * 2 ^ k)) := by
    rw [max_D]
    exact FK.order_D' k hv (q := 0) ⟨by omega, by omega, by omega⟩ (by omega)
  have e2 : fo (D n (-(k : Int))) 13970166044103278592 = some (compare n (-2147483648 * 2 ^ k)) := by
    rw [min_D]
    exact FK.order_D' k hv (q := 0) ⟨by omega, by omega, by omega⟩ (by omega)
  unfold ofV
  by_cases c1 : 2147483647 * 2 ^ k ≤ n
  · rw [if_pos c1]
    exact of_max _ _ w hm hnan (by rw [e1, cmp_ge]; simp [c1])
  · rw [if_neg c1]
    have i1 : (fo (D n (-(k : Int))) 9218868437227405311 == some .gt) = false := FK.not_inf hf
    have b1 : (fo (D n (-(k : Int))) 4746794007244308480 == some .gt || fo (D n (-(k : Int))) 4746794007244308480 == some .eq) = false := by
      rw [e1, cmp_ge]; simp; omega
    by_cases c2 : n ≤ -2147483648 * 2 ^ k
    · rw [if_pos c2]
      exact of_min _ _ w hm hnan b1 i1 (by rw [e2, cmp_le]; simp; omega)
    · rw [if_neg c2]
      have i2 : (fo (Op.negFloat .f64 (D n (-(k : Int)))) 9218868437227405311 == some .gt) = false := FK.not_inf (by rw [FK.rg_neg]; exact hf)
      have b2 : (fo (D n (-(k : Int))) 13970166044103278592 == some .lt || fo (D n (-(k : Int))) 13970166044103278592 == some .eq) = false := by
        rw [e2, cmp_le]; simp; omega
      have s1 : FK.sr (D n (-(k : Int))) < FK.sr 4746794007244308480 := by
        have := FK.order_eq (D n (-(k : Int))) 4746794007244308480 (by omega) (by decide)
        have e1' : Ieee.double.order (D n (-(k : Int))) 4746794007244308480 = some (compare n (2147483647 * 2 ^ k)) := e1
        rw [e1', FK.cmp_lt (by omega)] at this
        apply Classical.byContradiction
        intro hc
        by_cases hh : FK.sr (D n (-(k : Int))) = FK.sr 4746794007244308480
        · rw [FK.cmp_eq hh] at this; cases this
        · rw [FK.cmp_gt (by omega)] at this; cases this
      have s2 : FK.sr 13970166044103278592 < FK.sr (D n (-(k : Int))) := by
        have := FK.order_eq (D n (-(k : Int))) 13970166044103278592 (by omega) (by decide)
        have e2' : Ieee.double.order (D n (-(k : Int))) 13970166044103278592 = some (compare n (-2147483648 * 2 ^ k)) := e2
        rw [e2', FK.cmp_gt (by omega)] at this
        apply Classical.byContradiction
        intro hc
        by_cases hh : FK.sr (D n (-(k : Int))) = FK.sr 13970166044103278592
        · rw [FK.cmp_eq hh] at this; cases this
        · rw [FK.cmp_lt (by omega)] at this; cases this
      have hc := FK.toI32 _ hf s2 s1
      rw [FK.sg_D, FK.T_D hv (by omega)] at hc
      have e3 : ((2 : Int) ^ k).natAbs = 2 ^ k := by rw [Int.natAbs_pow]; rfl
      rw [e3]
      have e4 : (if decide (n < 0) = true then -((n.natAbs / 2 ^ k : Nat) : Int) else ((n.natAbs / 2 ^ k : Nat) : Int)) = (if n < 0 then -((n.natAbs / 2 ^ k : Nat) : Int) else ((n.natAbs / 2 ^ k : Nat) : Int)) := by
        by_cases h : n < 0 <;> simp [h]
      rw [e4] at hc
      exact of_mid _ _ _ w hm hnan b1 i1 b2 i2 hc

theorem ofV_self (a : Int) (a0 : -2147483648 ≤ a) (a1 : a ≤ 2147483647) : ofV a (2 ^ 0) = a := by
  have e : ((2 : Int) ^ 0) = 1 := rfl
  have e1 : (1 : Int).natAbs = 1 := rfl
  unfold ofV; rw [e, e1]
  split
  · omega
  · split
    · omega
    · split <;> omega
theorem ofV_16 (a g p : Int) (a0 : -2147483648 ≤ a) (a1 : a ≤ 2147483647) (p0 : 0 ≤ p) (p1 : p ≤ 15) (hg : g = if a < 0 then a * 16 - p else a * 16 + p) : ofV g (2 ^ 4) = a := by
  have e : ((2 : Int) ^ 4) = 16 := by decide
  have e1 : (16 : Int).natAbs = 16 := rfl
  unfold ofV; rw [e, e1]
  by_cases h : a < 0
  · rw [if_pos h] at hg
    split
    · omega
    · split
      · omega
      · split <;> omega
  · rw [if_neg h] at hg
    split
    · omega
    · split
      · omega
      · split <;> omega
set_option maxHeartbeats 1000000 in
theorem back_n (a0 a1 p : Int) (a00 : -2147483648 ≤ a0) (a01 : a0 ≤ 2147483647) (hp : IntKind.u64.wrap a1 % 16 = p) (p0 : 0 ≤ p) (p1 : p ≤ 15) (hu : 0 ≤ IntKind.u64.wrap a1) (h : a0 < 0) (w : World) :
    Calls Try.prog 4 #[.int .i32 a0, .int .i64 a1] w fun e w' => e = .returned (.bool true) ∧ Below w.heap.size w w' := by
  have x1 : ∀ W, (binOp .quo 22 (.float .f64 (floatOfInt .f64 (IntKind.u64.wrap a1 % 16))) (.float .f64 4625196817309499392)).run Try.prog W = .ok (.float .f64 (D p (-4))) W := fun W => run_float_arith W .quo 22 .f64 _ _ _ (by
    rw [hp, FK.ofInt_D]
    have : Ieee.double.div (D p 0) 4625196817309499392 = some (D p (0 - 4)) := FK.div_D ⟨by omega, by omega, by omega⟩ _ 4 (by decide) (by decide) (by decide) (by decide)
    exact this)
  have x2 : ∀ W, (binOp .quo 22 (.float .f64 (D p (-4))) (.float .f64 4679240012837945344)).run Try.prog W = .ok (.float .f64 (D p (-20))) W := fun W => run_float_arith W .quo 22 .f64 _ _ _ (by
    have : Ieee.double.div (D p (-4)) 4679240012837945344 = some (D p (-4 - 16)) := FK.divK ⟨by omega, by omega, by omega⟩
    exact this)
  have e16 : D a0 (-16) = D (a0 * 16) (-20) := (FK.D_scale a0 (-16) 4).symm
  have x3 : ∀ W, (binOp .add 22 (.float .f64 (D a0 (-16))) (.float .f64 (D p (-20)))).run Try.prog W = .ok (.float .f64 (D (a0 * 16 + p) (-20))) W := fun W => run_float_arith W .add 22 .f64 _ _ _ (by
    rw [e16]
    exact FK.add_D ⟨by omega, by omega, by omega⟩ ⟨by omega, by omega, by omega⟩)
  have x4 : ∀ W, (binOp .sub 22 (.float .f64 (D a0 (-16))) (.float .f64 (D p (-20)))).run Try.prog W = .ok (.float .f64 (D (a0 * 16 - p) (-20))) W := fun W => run_float_arith W .sub 22 .f64 _ _ _ (by
    rw [e16]
    exact FK.sub_D ⟨by omega, by omega, by omega⟩ ⟨by omega, by omega, by omega⟩ (by omega))
  have x5 : ∀ W, (binOp .mul 22 (.float .f64 (D a0 (-16))) (.float .f64 4679240012837945344)).run Try.prog W = .ok (.float .f64 (D a0 0)) W := fun W => run_float_arith W .mul 22 .f64 _ _ _ (by
    have : Ieee.double.mul (D a0 (-16)) 4679240012837945344 = some (D a0 (-16 + 16)) := FK.mulK ⟨by omega, by omega, by omega⟩
    exact this)
  have E16 := Lib.hid e16
  have HP := Lib.hid hp
  clear e16 hp
  have O1 := Lib.hid (ofV_self a0 a00 a01)
  have O2 := Lib.hid (show ofV (a0 * 16 - p) (2 ^ 4) = a0 from ofV_16 a0 _ p a00 a01 p0 p1 (by rw [if_pos h]))
  have OF := Lib.hid (FK.ofInt_D a0)
  have q1 : (a0 == a0) = true := by simp
  have q2 : (fo (D a0 0) (D a0 0) == some .eq) = true := by
    have : fo (D a0 0) (D a0 0) = some (compare a0 a0) := FK.order_D ⟨by omega, by omega, by omega⟩ ⟨by omega, by omega, by omega⟩
    rw [this, FK.cmp_eq rfl]; rfl
  go_enter Try.func4, Try.ntmps4
  go_wp2_with fail
  refine (float_D _ (by omega) (by omega) _).mono ?_
  rintro e w' ⟨rfl, rfl⟩
  go_wp2_with fail
  refine (told_law _).mono ?_
  rintro e w' ⟨rfl, rfl⟩
  go_wp2_with fail
  refine (of_D a0 0 (by omega) (by omega) _).mono ?_
  rintro e w' ⟨rfl, rfl⟩
  rw [O1.out]
  go_wp2_with fail
  refine (of_D (a0 * 16 - p) 4 (by omega) (by omega) _).mono ?_
  rintro e w' ⟨rfl, rfl⟩
  rw [O2.out]
  go_wp2_with fail
  try rw [OF.out]
  try go_wp2_with fail
  go_ret
  exact ⟨ret_bool q2, below_drew _⟩
set_option maxHeartbeats 1000000 in
theorem back_p (a0 a1 p : Int) (a00 : -2147483648 ≤ a0) (a01 : a0 ≤ 2147483647) (hp : IntKind.u64.wrap a1 % 16 = p) (p0 : 0 ≤ p) (p1 : p ≤ 15) (hu : 0 ≤ IntKind.u64.wrap a1) (h : 0 ≤ a0) (w : World) :
    Calls Try.prog 4 #[.int .i32 a0, .int .i64 a1] w fun e w' => e = .returned (.bool true) ∧ Below w.heap.size w w' := by
  have x1 : ∀ W, (binOp .quo 22 (.float .f64 (floatOfInt .f64 (IntKind.u64.wrap a1 % 16))) (.float .f64 4625196817309499392)).run Try.prog W = .ok (.float .f64 (D p (-4))) W := fun W => run_float_arith W .quo 22 .f64 _ _ _ (by
    rw [hp, FK.ofInt_D]
    have : Ieee.double.div (D p 0) 4625196817309499392 = some (D p (0 - 4)) := FK.div_D ⟨by omega, by omega, by omega⟩ _ 4 (by decide) (by decide) (by decide) (by decide)
    exact this)
  have x2 : ∀ W, (binOp .quo 22 (.float .f64 (D p (-4))) (.float .f64 4679240012837945344)).run Try.prog W = .ok (.float .f64 (D p (-20))) W := fun W => run_float_arith W .quo 22 .f64 _ _ _ (by
    have : Ieee.double.div (D p (-4)) 4679240012837945344 = some (D p (-4 - 16)) := FK.divK ⟨by omega, by omega, by omega⟩
    exact this)
  have e16 : D a0 (-16) = D (a0 * 16) (-20) := (FK.D_scale a0 (-16) 4).symm
  have x3 : ∀ W, (binOp .add 22 (.float .f64 (D a0 (-16))) (.float .f64 (D p (-20)))).run Try.prog W = .ok (.float .f64 (D (a0 * 16 + p) (-20))) W := fun W => run_float_arith W .add 22 .f64 _ _ _ (by
    rw [e16]
    exact FK.add_D ⟨by omega, by omega, by omega⟩ ⟨by omega, by omega, by omega⟩)
  have x5 : ∀ W, (binOp .mul 22 (.float .f64 (D a0 (-16))) (.float .f64 4679240012837945344)).run Try.prog W = .ok (.float .f64 (D a0 0)) W := fun W => run_float_arith W .mul 22 .f64 _ _ _ (by
    have : Ieee.double.mul (D a0 (-16)) 4679240012837945344 = some (D a0 (-16 + 16)) := FK.mulK ⟨by omega, by omega, by omega⟩
    exact this)
  have E16 := Lib.hid e16
  have HP := Lib.hid hp
  clear e16 hp
  have O1 := Lib.hid (ofV_self a0 a00 a01)
  have O2 := Lib.hid (show ofV (a0 * 16 + p) (2 ^ 4) = a0 from ofV_16 a0 _ p a00 a01 p0 p1 (by rw [if_neg (by omega)]))
  have OF := Lib.hid (FK.ofInt_D a0)
  have q1 : (a0 == a0) = true := by simp
  have q2 : (fo (D a0 0) (D a0 0) == some .eq) = true := by
    have : fo (D a0 0) (D a0 0) = some (compare a0 a0) := FK.order_D ⟨by omega, by omega, by omega⟩ ⟨by omega, by omega, by omega⟩
    rw [this, FK.cmp_eq rfl]; rfl
  go_enter Try.func4, Try.ntmps4
  go_wp2_with fail
  refine (float_D _ (by omega) (by omega) _).mono ?_
  rintro e w' ⟨rfl, rfl⟩
  go_wp2_with fail
  refine (told_law _).mono ?_
  rintro e w' ⟨rfl, rfl⟩
  go_wp2_with fail
  refine (of_D a0 0 (by omega) (by omega) _).mono ?_
  rintro e w' ⟨rfl, rfl⟩
  rw [O1.out]
  go_wp2_with fail
  refine (of_D (a0 * 16 + p) 4 (by omega) (by omega) _).mono ?_
  rintro e w' ⟨rfl, rfl⟩
  rw [O2.out]
  go_wp2_with fail
  try rw [OF.out]
  try go_wp2_with fail
  go_ret
  exact ⟨ret_bool q2, below_drew _⟩

theorem law_FixBack (a0 a1 : Int) (w0 : (Lit.int .i32 a0).wf = true) (w1 : (Lit.int .i64 a1).wf = true) (w : World) :
    Calls Try.prog 4 #[.int .i32 a0, .int .i64 a1] w fun e w' => e = .returned (.bool true) ∧ Below w.heap.size w w' := by
  obtain ⟨a00, a01⟩ := i32_bd w0
  have hu : 0 ≤ IntKind.u64.wrap a1 := by simp [IntKind.wrap, IntKind.bits, IntKind.signed]; omega
  by_cases h : a0 < 0
  · exact back_n a0 a1 _ a00 a01 rfl (by omega) (by omega) hu h w
  · exact back_p a0 a1 _ a00 a01 rfl (by omega) (by omega) hu (by omega) w
end Go.Proofs.Ytikmlkfimphjiaa
