/-
  Serial: the Go text of SerialWays, SerialAsks and SerialGaps returns true for every input.
-/
import Derived.Test.YtbafmgjdfbdkkaaB
namespace Go.Proofs.Ytbafmgjdfbdkkaa
set_option linter.unusedVariables false
open Go.ChangeShapes Go.WideShapes Go.ChangeAt Go.RowKit

theorem u16_bd {a : Int} (h : (Lit.int .u16 a).wf = true) : 0 ≤ a ∧ a ≤ 65535 := bounds_u16 h

theorem law_SerialWays (a0 : Int) (a1 : Int) (a2 : Int) (w0 : (Lit.int .u16 a0).wf = true) (w1 : (Lit.int .u16 a1).wf = true) (w2 : (Lit.int .i64 a2).wf = true) (w : World) :
    Calls Try.prog 6 #[.int .u16 a0, .int .u16 a1, .int .i64 a2] w fun e w' => e = .returned (.bool true) ∧ Below w.heap.size w w' := by
  obtain ⟨a00, a01⟩ := u16_bd w0
  obtain ⟨a10, a11⟩ := u16_bd w1
  clear w0 w1
  have l0 := way_lo a0 a1
  have l1 := way_hi a0 a1
  have m0 := way_lo a1 a0
  have m1 := way_hi a1 a0
  have e0 := way_eq a0 a1
  have e1 := way_eq a1 a0
  have q1 : way (IntKind.u16.wrap (a0 + IntKind.u16.wrap a2)) (IntKind.u16.wrap (a1 + IntKind.u16.wrap a2)) = way a0 a1 := by
    rw [way_eq, e0, wrap_u16, wrap_u16, wrap_u16]; omega
  have q2 : (IntKind.u16.wrap (a0 + IntKind.u16.wrap (way a0 a1)) == a1) = true := by
    rw [beq_iff_eq, e0, wrap_u16, wrap_u16]; omega
  have q3 : (way a0 a1 = -32768 ∧ way a1 a0 = -32768) ∨ (way a0 a1 = -way a1 a0) := by omega
  have Q1 := Lib.hid q1
  clear q1 e0 e1
  generalize hx : way a0 a1 = x at *
  generalize hy : way a1 a0 = y at *
  have Hx := Lib.hid hx
  have Hy := Lib.hid hy
  clear hx hy
  have q4 : (decide (0 < x) == decide (0 < x)) = true := by simp
  rcases q3 with ⟨rfl, rfl⟩ | q3
  · go_enter Try.func6, Try.ntmps6
    go_wp2_with fail
    refine (way_any _ _ _).mono ?_
    rintro e w' ⟨rfl, rfl⟩
    rw [Hx.out]
    go_wp2_with fail
    refine (way_any _ _ _).mono ?_
    rintro e w' ⟨rfl, rfl⟩
    rw [Hy.out]
    go_wp2_with fail
    refine (told_law _).mono ?_
    rintro e w' ⟨rfl, hB⟩
    go_wp2_with fail
    refine (ahead_any _ _ _).mono ?_
    rintro e w' ⟨rfl, rfl⟩
    rw [Hx.out]
    go_wp2_with fail
    refine (way_any _ _ _).mono ?_
    rintro e w' ⟨rfl, rfl⟩
    rw [Q1.out]
    go_wp2_with fail
    go_ret
    exact ⟨rfl, hB⟩
  · have q5 : (x == -y) = true := by simp [q3]
    have Q3 := Lib.hid q3
    clear q3
    go_enter Try.func6, Try.ntmps6
    go_wp2_with fail
    refine (way_any _ _ _).mono ?_
    rintro e w' ⟨rfl, rfl⟩
    rw [Hx.out]
    go_wp2_with fail
    refine (way_any _ _ _).mono ?_
    rintro e w' ⟨rfl, rfl⟩
    rw [Hy.out]
    go_wp2_with fail
    refine (told_law _).mono ?_
    rintro e w' ⟨rfl, hB⟩
    go_wp2_with fail
    refine (ahead_any _ _ _).mono ?_
    rintro e w' ⟨rfl, rfl⟩
    rw [Hx.out]
    go_wp2_with fail
    refine (way_any _ _ _).mono ?_
    rintro e w' ⟨rfl, rfl⟩
    rw [Q1.out]
    go_wp2_with fail
    go_ret
    exact ⟨rfl, hB⟩

def rway (a b : Int) : Int := if 32768 ≤ (b - a + 65536) % 65536 then (b - a + 65536) % 65536 - 65536 else (b - a + 65536) % 65536
theorem rway_eq (a b : Int) : rway a b = way a b := by rw [way_eq]; unfold rway; split <;> omega

theorem rway_any (a b : Int) (a0 : 0 ≤ a) (a1 : a ≤ 65535) (b0 : 0 ≤ b) (b1 : b ≤ 65535) (w : World) :
    Calls Try.prog 11 #[.int .u16 a, .int .u16 b] w fun e w' => e = .returned (.int .i64 (way a b)) ∧ w = w' := by
  rw [← rway_eq]
  unfold rway
  have h0 : 0 ≤ (b - a + 65536) % 65536 := by omega
  have h1 : (b - a + 65536) % 65536 ≤ 65535 := by omega
  by_cases h : 32768 ≤ (b - a + 65536) % 65536
  · rw [if_pos h]
    go_enter Try.func11, Try.ntmps11
    go_wp2
    go_ret
    exact ⟨ret_int (by omega), rfl⟩
  · rw [if_neg h]
    go_enter Try.func11, Try.ntmps11
    go_wp2
    go_ret
    exact ⟨ret_int (by omega), rfl⟩

def rtoldF (s a m : Int) : Bool :=
  -way a s == 0 || (decide (1 ≤ -way a s) && decide (-way a s ≤ 32) && (bits BinOp.and IntKind.u32 (m / 2 ^ ((-way a s).toNat - 1)) 1 == 1))
theorem rtoldF_eq (s a m : Int) : rtoldF s a m = toldF s a m := by
  by_cases h : way s a = -32768
  · have e : way a s = -32768 := by have := way_eq s a; have := way_eq a s; omega
    unfold rtoldF toldF
    rw [h, e]
    have k1 : decide (-(-32768 : Int) ≤ 32) = false := by decide
    have k2 : decide (1 ≤ (-32768 : Int)) = false := by decide
    have k3 : (-(-32768 : Int) == 0) = ((-32768 : Int) == 0) := by decide
    rw [k1, k2, k3, Bool.and_false, Bool.false_and, Bool.false_and, Bool.false_and]
  · have e : -way a s = way s a := by have := way_eq s a; have := way_eq a s; omega
    unfold rtoldF toldF
    rw [e]

theorem rtold_any (s a m : Int) (a0 : 0 ≤ a) (a1 : a ≤ 65535) (b0 : 0 ≤ s) (b1 : s ≤ 65535) (w : World) :
    Calls Try.prog 14 #[.int .u16 s, .int .u16 a, .int .u32 m] w fun e w' => e = .returned (.bool (toldF s a m)) ∧ w = w' := by
  rw [← rtoldF_eq]
  have h0 := way_lo a s
  have h1 := way_hi a s
  unfold rtoldF
  go_enter Try.func14, Try.ntmps14
  go_wp2_with (go_at_call 11; refine (rway_any _ _ a0 a1 b0 b1 _).mono ?_; rintro e w' ⟨rfl, rfl⟩)
  all_goals go_ret
  all_goals (refine ⟨ret_bool ?_, rfl⟩; simp_all; try omega)

theorem law_SerialAsks (a0 a1 a2 a3 : Int) (w0 : (Lit.int .u16 a0).wf = true) (w1 : (Lit.int .u16 a1).wf = true) (w2 : (Lit.int .u16 a2).wf = true) (w3 : (Lit.int .u32 a3).wf = true) (w : World) :
    Calls Try.prog 3 #[.int .u16 a0, .int .u16 a1, .int .u16 a2, .int .u32 a3] w fun e w' => e = .returned (.bool true) ∧ Below w.heap.size w w' := by
  obtain ⟨a00, a01⟩ := u16_bd w0
  obtain ⟨a10, a11⟩ := u16_bd w1
  obtain ⟨a20, a21⟩ := u16_bd w2
  clear w0 w1 w2 w3
  have q1 : (way a0 a1 == way a0 a1) = true := by simp
  have q2 : (decide (0 < way a1 a0) == decide (0 < way a1 a0)) = true := by simp
  have q3 : (toldF a0 a2 a3 == toldF a0 a2 a3) = true := by simp
  go_enter Try.func3, Try.ntmps3
  go_wp2_with fail
  refine (told_law _).mono ?_
  rintro e w' ⟨rfl, hB⟩
  go_wp2_with fail
  refine (way_any _ _ _).mono ?_
  rintro e w' ⟨rfl, rfl⟩
  go_wp2_with fail
  refine (rway_any _ _ a00 a01 a10 a11 _).mono ?_
  rintro e w' ⟨rfl, rfl⟩
  go_wp2_with fail
  refine (ahead_any _ _ _).mono ?_
  rintro e w' ⟨rfl, rfl⟩
  go_wp2_with fail
  refine (rway_any _ _ a10 a11 a00 a01 _).mono ?_
  rintro e w' ⟨rfl, rfl⟩
  go_wp2_with fail
  refine (told_any _ _ _ _).mono ?_
  rintro e w' ⟨rfl, rfl⟩
  go_wp2_with fail
  refine (rtold_any _ _ _ a20 a21 a00 a01 _).mono ?_
  rintro e w' ⟨rfl, rfl⟩
  go_wp2_with fail
  go_ret
  exact ⟨rfl, hB⟩

end Go.Proofs.Ytbafmgjdfbdkkaa
