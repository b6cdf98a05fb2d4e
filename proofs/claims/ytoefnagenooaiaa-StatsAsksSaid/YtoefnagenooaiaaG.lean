/-
  Stats: the Go text of StatsSteady returns true for every input.
-/
import Derived.Test.YtoefnagenooaiaaE
namespace Go.Proofs.Ytoefnagenooaiaa
set_option linter.unusedVariables false
open Go.ChangeShapes Go.WideShapes Go.ChangeAt Go.RowKit
attribute [local go_sem] run_neg_f64 frombits_run bits_run run_store_float


theorem u64_rng (n : Int) : 0 ≤ IntKind.u64.wrap n ∧ IntKind.u64.wrap n < 18446744073709551616 := by simp [IntKind.wrap, IntKind.bits, IntKind.signed]; omega
/-- A step from a number to itself. -/
theorem step_self {f : Nat} (hf : f < 9218868437227405312) : ∃ p, FK.Step f f 4620693217682128896 0 p f := by
  obtain ⟨d, p, s, h⟩ := FK.step8 hf hf
  have e : s = f := by have := h.lo; have := h.hi; omega
  subst e
  have hd : d = 0 := by
    have w := FK.w_pos hf
    have h2 := FK.sub_fin s s (by rw [w.1]; exact hf) (by rw [w.1]; exact hf)
    rw [if_pos (by omega), w.2, FK.mk_ff, Int.sub_self] at h2
    have h3 := h.sub
    rw [h2] at h3
    injection h3 with h3
    rw [← h3]; decide
  subst hd
  exact ⟨p, h⟩
theorem step_null : ∃ d p, FK.Step 0 (FK.rg 0) 4616189618054758400 d p 0 := by
  obtain ⟨d, p, s, h⟩ := FK.step4 (a := 0) (b := FK.rg 0) (by decide) (by decide)
  have r : FK.rg 0 = 0 := by decide
  have e : s = 0 := by have := h.lo; have := h.hi; rw [r] at *; omega
  subst e
  exact ⟨d, p, h⟩
/-- The tests of a number that may be noted. -/
theorem pos_tests {f : Nat} (hf : f < 9218868437227405312) : FK.rg f = f ∧ (fo f f != some .eq) = false ∧ (fo f 9218868437227405311 == some .gt) = false ∧ (fo f 0 == some .lt) = false ∧ (fo f f == some .eq) = true := by
  refine ⟨(FK.w_pos hf).1, ?_, ?_, ?_, ?_⟩
  · rw [ord_pos (by omega) (by omega), FK.cmp_eq rfl]; rfl
  · rw [ord_pos (by omega) (by decide)]
    rcases cmp_cases (f : Int) ((9218868437227405311 : Nat) : Int) with ⟨h, e⟩ | ⟨h, e⟩ | ⟨h, e⟩ <;> rw [e] <;> simp <;> omega
  · rw [ord_pos (by omega) (by decide)]
    rcases cmp_cases (f : Int) ((0 : Nat) : Int) with ⟨h, e⟩ | ⟨h, e⟩ | ⟨h, e⟩ <;> rw [e] <;> simp <;> omega
  · rw [ord_pos (by omega) (by omega), FK.cmp_eq rfl]; rfl
/-- What is noted again and again. -/
def SteadySt (f n : Nat) (w wr : World) (b : Nat) : Prop := if n = 0 then Tr w wr b 0 0 0 0 0 else Tr w wr b n f 0 f f
theorem steady_add {f n : Nat} (hf : f < 9218868437227405312) (hn : n < 60) {w wr : World} {b : Nat} (h : SteadySt f n w wr b) :
    Calls Try.prog 11 #[.pointer (some ⟨b, 0, none⟩), .float .f64 f] wr fun e w' => e = .returned (.bool true) ∧ SteadySt f (n + 1) w w' b := by
  obtain ⟨r, t1, t2, t3, -⟩ := pos_tests hf
  suffices hh : Calls Try.prog 11 #[.pointer (some ⟨b, 0, none⟩), .float .f64 f] wr fun e w' => e = .returned (.bool true) ∧ Tr w w' b ((n + 1 : Nat) : Int) f 0 f f from
    hh.mono fun e w' ⟨h1, h2⟩ => ⟨h1, by unfold SteadySt; rw [if_neg (by omega)]; exact h2⟩
  unfold SteadySt at h
  by_cases h0 : n = 0
  · rw [if_pos h0] at h
    subst h0
    refine (add_first b _ _ _ _ f f (by omega) _ h.line r t1 t2 t3).mono ?_
    rintro e w' ⟨rfl, hL, hO⟩
    exact ⟨rfl, h.only hL hO⟩
  · rw [if_neg h0] at h
    obtain ⟨p, s1⟩ := step_self hf
    obtain ⟨d2, p2, s2⟩ := step_null
    refine (add_more b n _ _ _ _ f hf _ _ _ _ _ _ s1 s2 hf hf (by omega) (by omega) _ h.line r t1 t2 t3).mono ?_
    rintro e w' ⟨rfl, hL, hO⟩
    rw [Nat.min_self, Nat.max_self] at hL
    have := h.only hL hO
    exact ⟨rfl, by rw [Int.natCast_add]; exact this⟩
set_option maxHeartbeats 1000000 in
theorem steady_walk (a0 a1 : Int) (f k : Nat) (hf : f < 9218868437227405312) (hk0 : k < 50) (hk : IntKind.u64.wrap a1 % 50 = k) (hd : FloatKind.f64.format.div (floatOfInt .f64 (IntKind.u64.wrap a0 % 8001)) 4620693217682128896 = some f) (w : World) :
    Calls Try.prog 4 #[.int .i64 a0, .int .i64 a1] w fun e w' => e = .returned (.bool true) ∧ Below w.heap.size w w' := by
  have hu := u64_rng a0
  have hu2 := u64_rng a1
  have e1 : wrap64 ((IntKind.u64.wrap a1).tmod 50) = (k : Int) := by rw [Int.tmod_eq_emod_of_nonneg hu2.1, hk]; simp [wrap64]; omega
  have e2 : (IntKind.u64.wrap a0).tmod 8001 = IntKind.u64.wrap a0 % 8001 := Int.tmod_eq_emod_of_nonneg hu.1
  have x1 := fun (W : World) => run_float_arith (P := Try.prog) W .quo 23 .f64 _ _ _ hd
  obtain ⟨-, t1, t2, t3, t4⟩ := pos_tests hf
  have q0 : (fo 0 0 == some .eq) = true := by decide +kernel
  have HF := Lib.hid hf
  clear hd hk hu hu2 t1 t2 t3 hf
  go_enter Try.func4, Try.ntmps4
  go_wp2_with fail
  refine (new_any _).mono ?_
  rintro e w1 ⟨rfl, hL, hB, hz⟩
  obtain ⟨b, hb⟩ : ∃ b, w.heap.size = b := ⟨_, rfl⟩
  rw [hb] at hL hB hz ⊢
  have T : SteadySt f 0 w w1 b := by unfold SteadySt; rw [if_pos rfl]; exact ⟨hL, hB⟩
  have HBB := Lib.hid hb
  clear hL hB hz hb
  go_wp2_with fail
  go_loopw [7] (fun i wr => ∃ n : Nat, n ≤ k + 1 ∧ i = .int .i64 n ∧ SteadySt f n w wr b) (fun i _ => k + 1 - (intOf i).toNat)
  case atStart => exact ⟨0, by omega, rfl, T⟩
  case round =>
    clear T
    obtain ⟨n, hn1, rfl, T⟩ := hrel
    by_cases hlt : n < k + 1
    · go_wp2_with fail
      refine (steady_add HF.out (by omega) T).mono ?_
      rintro e x2 ⟨rfl, T2⟩
      clear T
      go_wp2_with fail
      go_roundw
      case rel => exact ⟨n + 1, by omega, by go_num, T2⟩
      case measure => simp [intOf]; omega
    · obtain rfl : n = k + 1 := by omega
      unfold SteadySt at T
      rw [if_neg (by omega)] at T
      have T0 := Lib.hid T
      clear T
      have hnz : (((k + 1 : Nat) : Int) == 0) = false := by simp; omega
      have HNZ := Lib.hid hnz
      clear hnz
      go_wp2_with fail
      refine (told_law _).mono ?_
      rintro e w' ⟨rfl, hb⟩
      have T1 := Lib.hid (T0.out.below hb)
      clear hb T0
      have T0 := T1
      clear T1
      go_wp2_with fail
      refine (mean_any b _ _ _ _ _ HNZ.out _ T0.out.line).mono ?_
      rintro e w' ⟨rfl, hb⟩
      have T1 := Lib.hid (T0.out.below hb)
      clear hb T0
      have T0 := T1
      clear T1
      go_wp2_with fail
      refine (spread_any b _ _ _ _ _ HNZ.out _ T0.out.line).mono ?_
      rintro e w' ⟨rfl, hb⟩
      have T1 := Lib.hid (T0.out.below hb)
      clear hb T0
      have T0 := T1
      clear T1
      go_wp2_with fail
      refine (least_any b _ _ _ _ _ HNZ.out _ T0.out.line).mono ?_
      rintro e w' ⟨rfl, hb⟩
      have T1 := Lib.hid (T0.out.below hb)
      clear hb T0
      have T0 := T1
      clear T1
      go_wp2_with fail
      refine (most_any b _ _ _ _ _ HNZ.out _ T0.out.line).mono ?_
      rintro e w' ⟨rfl, hb⟩
      have T1 := Lib.hid (T0.out.below hb)
      clear hb T0
      have T0 := T1
      clear T1
      go_wp2_with fail
      go_ret
      exact ⟨rfl, by rw [HBB.out]; exact T0.out.bel⟩
theorem eighths (n : Int) (h0 : 0 ≤ n) (h1 : n ≤ 100000) : ∃ f, f < 9218868437227405312 ∧ f = FK.D n (-3) ∧ FloatKind.f64.format.div (floatOfInt .f64 n) 4620693217682128896 = some f := by
  have hw : FK.Wr n 0 := by unfold FK.Wr; omega
  have hw3 : FK.Wr n (-3) := by unfold FK.Wr; omega
  refine ⟨FK.D n (-3), ?_, rfl, ?_⟩
  · have h := FK.fin_D hw3
    rw [FK.rg_D] at h
    unfold FK.D
    rw [show decide (n < 0) = false by simp; omega, FK.mkf]
    exact h
  · rw [FK.ofInt_D]
    exact FK.div_D hw 4620693217682128896 3 (by decide) (by decide) (by decide) (by decide)
theorem law_StatsSteady (a0 a1 : Int) (w0 : (Lit.int .i64 a0).wf = true) (w1 : (Lit.int .i64 a1).wf = true) (w : World) :
    Calls Try.prog 4 #[.int .i64 a0, .int .i64 a1] w fun e w' => e = .returned (.bool true) ∧ Below w.heap.size w w' := by
  have hu := u64_rng a0
  have hu2 := u64_rng a1
  obtain ⟨f, hf, -, hd⟩ := eighths (IntKind.u64.wrap a0 % 8001) (by omega) (by omega)
  exact steady_walk a0 a1 f (IntKind.u64.wrap a1 % 50).toNat hf (by omega) (by omega) hd w
end Go.Proofs.Ytoefnagenooaiaa
