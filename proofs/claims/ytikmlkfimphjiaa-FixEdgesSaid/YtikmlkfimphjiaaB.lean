/-
  Fixed point: Root and the reference's Root return the whole root, for every input.
-/
import Derived.Test.YtikmlkfimphjiaaA
namespace Go.Proofs.Ytikmlkfimphjiaa
set_option linter.unusedVariables false
open Go.ChangeShapes Go.WideShapes Go.ChangeAt Go.RowKit

def IsRoot (n r : Int) : Prop := 0 ≤ r ∧ r * r ≤ n ∧ n < (r + 1) * (r + 1)

theorem sq_le {x y : Int} (hx : 0 ≤ x) (h : x ≤ y) : x * x ≤ y * y := Int.mul_le_mul h h hx (by omega)
theorem IsRoot.unique {n r s : Int} (h : IsRoot n r) (k : IsRoot n s) : r = s := by
  obtain ⟨a, b, c⟩ := h
  obtain ⟨d, e, f⟩ := k
  have h1 : ¬ r < s := fun hh => by have := sq_le (x := r + 1) (y := s) (by omega) (by omega); omega
  have h2 : ¬ s < r := fun hh => by have := sq_le (x := s + 1) (y := r) (by omega) (by omega); omega
  omega

def RootRel (n r : Int) (k : Nat) : Prop := 0 ≤ r ∧ r * r ≤ n ∧ n < (r + (2 : Int) ^ k) * (r + (2 : Int) ^ k)
def bitOf (k : Nat) : Int := if k = 0 then 0 else (2 : Int) ^ (k - 1)

theorem root_small {n r : Int} (h0 : 0 ≤ r) (h : r * r ≤ n) (hn : n < 140737488355328) : r ≤ 16777216 := by
  apply Classical.byContradiction
  intro hh
  have := sq_le (x := 16777217) (y := r) (by omega) (by omega)
  omega

theorem bitOf_succ (k : Nat) : bitOf (k + 1) = (2 : Int) ^ k := by simp [bitOf]
theorem bitOf_half (k : Nat) : (2 : Int) ^ k / 2 = bitOf k := by
  cases k with
  | zero => rfl
  | succ j => rw [bitOf_succ, Int.pow_succ]; omega
theorem pow_pos' (k : Nat) : (1 : Int) ≤ (2 : Int) ^ k := by
  have := Nat.two_pow_pos k
  have h : ((2 ^ k : Nat) : Int) = (2 : Int) ^ k := by rw [Int.natCast_pow]; rfl
  omega
theorem pow_le' {k j : Nat} (h : k ≤ j) : (2 : Int) ^ k ≤ (2 : Int) ^ j := by
  have := Nat.pow_le_pow_right (n := 2) (by decide) h
  have h1 : ((2 ^ k : Nat) : Int) = (2 : Int) ^ k := by rw [Int.natCast_pow]; rfl
  have h2 : ((2 ^ j : Nat) : Int) = (2 : Int) ^ j := by rw [Int.natCast_pow]; rfl
  omega

theorem root_take {n r : Int} {k : Nat} (h : RootRel n r (k + 1)) (hx : (r + (2 : Int) ^ k) * (r + (2 : Int) ^ k) ≤ n) : RootRel n (r + (2 : Int) ^ k) k := by
  obtain ⟨a, b, c⟩ := h
  have := pow_pos' k
  refine ⟨by omega, hx, ?_⟩
  have e : r + (2 : Int) ^ (k + 1) = r + (2 : Int) ^ k + (2 : Int) ^ k := by rw [Int.pow_succ]; omega
  rwa [e] at c
theorem root_leave {n r : Int} {k : Nat} (h : RootRel n r (k + 1)) (hx : ¬ (r + (2 : Int) ^ k) * (r + (2 : Int) ^ k) ≤ n) : RootRel n r k := by
  obtain ⟨a, b, c⟩ := h
  exact ⟨a, b, by omega⟩

theorem root_pos (a : Int) (w : World) (a0 : 0 < a) (a1 : a ≤ 2147483647) :
    Calls Try.prog 20 #[.int .i32 a] w fun e w' => (∃ r : Int, e = .returned (.int .i32 r) ∧ IsRoot (a * 65536) r) ∧ w = w' := by
  go_enter Try.func20, Try.ntmps20
  go_wp2
  obtain ⟨n, hn⟩ : ∃ n, a * 65536 = n := ⟨_, rfl⟩
  rw [hn]
  have hn1 : n < 140737488355328 := by omega
  have hn0 : 0 < n := by omega
  have HN := Lib.hid hn
  clear hn
  go_loop [4, 5, 6] (fun r b _ => ∃ R : Int, ∃ k : Nat, k ≤ 25 ∧ r = .int .i64 R ∧ b = .int .i64 (bitOf k) ∧ Hid (RootRel n R k)) (fun r b _ => (intOf b).toNat)
  case atStart => exact ⟨0, 25, by omega, rfl, by rfl, by omega, by omega, by show n < (0 + 33554432) * (0 + 33554432); omega⟩
  case round =>
    obtain ⟨R, k, hk, rfl, rfl, HR⟩ := hrel
    cases k with
    | zero =>
      have hR : IsRoot n R := by
        obtain ⟨h1, h2, h3⟩ := HR.out
        exact ⟨h1, h2, by simpa using h3⟩
      have hR1 := root_small hR.1 hR.2.1 hn1
      have hR0 := hR.1
      have hcl : cl R = R := by unfold cl; rw [if_neg (by omega), if_neg (by omega)]
      have HRR := Lib.hid hR
      have HCL := Lib.hid hcl
      clear hR hcl HR
      go_wp2_with (go_at_call 36; refine (cut_any _ _).mono ?_; rintro e w' ⟨rfl, rfl⟩)
      rw [HCL.out]
      go_wp2_with fail
      go_ret
      exact ⟨⟨R, rfl, HN.out ▸ HRR.out⟩, rfl⟩
    | succ k =>
      have hR1 := root_small HR.out.1 HR.out.2.1 hn1
      have hR0 := HR.out.1
      have hp := pow_pos' k
      have hp2 : (2 : Int) ^ k ≤ 16777216 := pow_le' (j := 24) (by omega)
      rw [bitOf_succ]
      have hh := bitOf_half k
      have hxx : (R + (2 : Int) ^ k) * (R + (2 : Int) ^ k) ≤ 1125899906842624 := sq_le (y := 33554432) (by omega) (by omega)
      have hxx0 : 0 ≤ (R + (2 : Int) ^ k) * (R + (2 : Int) ^ k) := Int.mul_nonneg (by omega) (by omega)
      have ht := root_take HR.out
      have hl := root_leave HR.out
      have HT := Lib.hid ht
      have HL := Lib.hid hl
      have HH := Lib.hid hh
      have hlt : bitOf k < (2 : Int) ^ k := by rw [← hh]; omega
      have hbk : 0 ≤ bitOf k := by rw [← hh]; omega
      have HLT := Lib.hid hlt
      have HBK := Lib.hid hbk
      clear ht hl hh hlt hbk HR
      generalize hb : (2 : Int) ^ k = b at *
      have Hb := Lib.hid hb
      clear hb
      by_cases hx : (R + b) * (R + b) ≤ n
      · go_wp2
        exact ⟨⟨R + b, k, by omega, rfl, by rw [HH.out], HT.out hx⟩, by simp only [intOf]; omega⟩
      · go_wp2
        exact ⟨⟨R, k, by omega, rfl, by rw [HH.out], HL.out hx⟩, by simp only [intOf]; omega⟩

theorem root_zero (a : Int) (w : World) (a0 : a ≤ 0) :
    Calls Try.prog 20 #[.int .i32 a] w fun e w' => e = .returned (.int .i32 0) ∧ w = w' := by
  go_enter Try.func20, Try.ntmps20
  go_wp2
  go_ret
  exact ⟨rfl, rfl⟩
theorem rroot_zero (a : Int) (w : World) (a0 : a ≤ 0) :
    Calls Try.prog 21 #[.int .i32 a] w fun e w' => e = .returned (.int .i32 0) ∧ w = w' := by
  go_enter Try.func21, Try.ntmps21
  go_wp2
  go_loop [3, 4, 5] (fun r i _ => r = .int .i64 0 ∧ i = .int .i64 30) (fun r i _ => 0)
  case atStart => exact ⟨rfl, rfl⟩
  case round =>
    obtain ⟨rfl, rfl⟩ := hrel
    have hd : decide (0 < a) = false := by simp; omega
    go_wp2
    go_ret
    exact ⟨rfl, rfl⟩

theorem rroot_pos (a : Int) (w : World) (a0 : 0 < a) (a1 : a ≤ 2147483647) :
    Calls Try.prog 21 #[.int .i32 a] w fun e w' => (∃ r : Int, e = .returned (.int .i32 r) ∧ IsRoot (a * 65536) r) ∧ w = w' := by
  go_enter Try.func21, Try.ntmps21
  go_wp2
  go_loop [3, 4, 5] (fun r i _ => ∃ R : Int, ∃ k : Nat, k ≤ 31 ∧ r = .int .i64 R ∧ i = .int .i64 ((k : Int) - 1) ∧ Hid (RootRel (a * 65536) R k)) (fun _ i _ => (intOf i + 1).toNat)
  case atStart => exact ⟨0, 31, by omega, rfl, by rfl, by omega, by omega, by show a * 65536 < (0 + 2147483648) * (0 + 2147483648); omega⟩
  case round =>
    obtain ⟨R, k, hk, rfl, rfl, HR⟩ := hrel
    cases k with
    | zero =>
      have hR : IsRoot (a * 65536) R := by
        obtain ⟨h1, h2, h3⟩ := HR.out
        exact ⟨h1, h2, by simpa using h3⟩
      have hR1 := root_small hR.1 hR.2.1 (by omega)
      have hR0 := hR.1
      have HRR := Lib.hid hR
      clear hR HR
      have e0 : ((0 : Nat) : Int) - 1 = -1 := by rfl
      rw [e0]
      go_wp2
      go_ret
      exact ⟨⟨R, rfl, HRR.out⟩, rfl⟩
    | succ k =>
      have hR1 := root_small HR.out.1 HR.out.2.1 (by omega)
      have hR0 := HR.out.1
      have hp := pow_pos' k
      have hp2 : (2 : Int) ^ k ≤ 1073741824 := pow_le' (j := 30) (by omega)
      have hxx : (R + (2 : Int) ^ k) * (R + (2 : Int) ^ k) ≤ 4611686018427387904 := sq_le (y := 2147483648) (by omega) (by omega)
      have hxx0 : 0 ≤ (R + (2 : Int) ^ k) * (R + (2 : Int) ^ k) := Int.mul_nonneg (by omega) (by omega)
      have HT := Lib.hid (root_take HR.out)
      have HL := Lib.hid (root_leave HR.out)
      have ek : ((k + 1 : Nat) : Int) - 1 = k := by omega
      rw [ek]
      clear HR ek
      have hd : decide (0 < a) = true := by simp; omega
      by_cases hx : (R + (2 : Int) ^ k) * (R + (2 : Int) ^ k) ≤ a * 65536
      · go_wp2
        go_goals
        exact ⟨⟨R + (2 : Int) ^ k, k, by omega, rfl, rfl, HT.out hx⟩, by simp only [intOf]; omega⟩
      · go_wp2
        go_goals
        exact ⟨⟨R, k, by omega, rfl, rfl, HL.out hx⟩, by simp only [intOf]; omega⟩
end Go.Proofs.Ytikmlkfimphjiaa
