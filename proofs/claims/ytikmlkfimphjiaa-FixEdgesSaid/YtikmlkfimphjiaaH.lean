/-
  Fixed point: Of and the reference's Of return the same whole number at every float; the Go text of FixAsks returns true for every input.
-/
import Derived.Test.YtikmlkfimphjiaaG
namespace Go.Proofs.Ytikmlkfimphjiaa
set_option linter.unusedVariables false
open Go.ChangeShapes Go.WideShapes Go.ChangeAt Go.RowKit
open FK (D Wr)

theorem nan_order {x : Nat} (h : 9218868437227405312 < FK.rg x) (y : Nat) : Ieee.double.order x y = none := by
  unfold Ieee.Format.order
  rw [FK.read_nan x h]
  cases Ieee.double.read y <;> rfl

theorem mulK_cases (x : Nat) : (9218868437227405312 < FK.rg x ∧ Ieee.double.mul x 4679240012837945344 = none) ∨
    (FK.rg x ≤ 9218868437227405312 ∧ ∃ v, Ieee.double.mul x 4679240012837945344 = some v ∧ FK.rg v ≤ 9218868437227405312) := by
  by_cases h1 : FK.rg x < 9218868437227405312
  · refine Or.inr ⟨by omega, _, FK.mul_fin x _ h1 (by decide), ?_⟩
    rw [FK.rg_mkw _ _ (FK.rung_lt63 _ _)]
    exact FK.rung_le_inf _ _
  by_cases h2 : FK.rg x = 9218868437227405312
  · refine Or.inr ⟨by omega, FK.mkw (FK.sg x ^^ false) 9218868437227405312, ?_, ?_⟩
    · unfold Ieee.Format.mul
      rw [FK.read_inf x h2, FK.read_fin 4679240012837945344 (by decide)]
      show Option.map _ (if FK.mg (FK.rg 4679240012837945344) = 0 then none else some (Ieee.Datum.infinity _)) = _
      rw [if_neg (by decide)]
      show some (Ieee.double.word _ _) = _
      rw [FK.word_eq]
      rfl
    · rw [FK.rg_mkw _ _ (by decide)]; exact Nat.le_refl _
  · refine Or.inl ⟨by omega, ?_⟩
    unfold Ieee.Format.mul
    rw [FK.read_nan x (by omega)]
    rfl

def ofF (f : Nat) : Int :=
  match Ieee.double.mul f 4679240012837945344 with
  | none => 0
  | some v => if FK.sr 4746794007244308480 ≤ FK.sr v then 2147483647 else if FK.sr v ≤ FK.sr 13970166044103278592 then -2147483648
    else if FK.sg v then -(FK.T (FK.rg v) : Int) else FK.T (FK.rg v)

theorem ge_sr {x y : Nat} (hx : FK.rg x ≤ 9218868437227405312) (hy : FK.rg y ≤ 9218868437227405312) : (fo x y == some .gt || fo x y == some .eq) = decide (FK.sr y ≤ FK.sr x) := by
  have : fo x y = some (compare (FK.sr x) (FK.sr y)) := FK.order_eq x y hx hy
  rw [this, cmp_ge]
theorem le_sr {x y : Nat} (hx : FK.rg x ≤ 9218868437227405312) (hy : FK.rg y ≤ 9218868437227405312) : (fo x y == some .lt || fo x y == some .eq) = decide (FK.sr x ≤ FK.sr y) := by
  have : fo x y = some (compare (FK.sr x) (FK.sr y)) := FK.order_eq x y hx hy
  rw [this, cmp_le]

theorem sr_maxf : FK.sr 9218868437227405311 = 9218868437227405311 := by decide
theorem sr_max : FK.sr 4746794007244308480 = 4746794007244308480 := by decide
theorem sr_min : FK.sr 13970166044103278592 = -4746794007248502784 := by decide

theorem of_any (f : Nat) (w : World) : Calls Try.prog 24 #[.float .f64 f] w fun e w' => e = .returned (.int .i32 (ofF f)) ∧ ∃ n, w' = w.drewN n := by
  rcases mulK_cases f with ⟨h1, h2⟩ | ⟨h1, v, h2, h3⟩
  · have e : ofF f = 0 := by unfold ofF; rw [h2]
    rw [e]
    exact (of_nan f w h2).mono fun e w' ⟨a, b⟩ => ⟨a, 1, b⟩
  · have hnan : (fo v v != some .eq) = false := FK.eq_self _ h3
    unfold ofF; rw [h2]
    simp only
    have k1 := ge_sr h3 (y := 4746794007244308480) (by decide)
    have k2 := le_sr h3 (y := 13970166044103278592) (by decide)
    by_cases c1 : FK.sr 4746794007244308480 ≤ FK.sr v
    · rw [if_pos c1]
      exact (of_max f v w h2 hnan (by rw [k1]; simp [c1])).mono fun e w' ⟨a, b⟩ => ⟨a, 0, b.symm⟩
    · rw [if_neg c1]
      have hi : (fo v 9218868437227405311 == some .gt) = false := by
        have := FK.gt_iff h3 (y := 9218868437227405311) (by decide)
        rw [sr_maxf] at this
        rw [sr_max] at c1
        show (Ieee.double.order v 9218868437227405311 == some .gt) = false
        rw [this]; simp; omega
      have k1' : (fo v 4746794007244308480 == some .gt || fo v 4746794007244308480 == some .eq) = false := by rw [k1]; simp [c1]
      by_cases c2 : FK.sr v ≤ FK.sr 13970166044103278592
      · rw [if_pos c2]
        exact (of_min f v w h2 hnan k1' hi (by rw [k2]; simp [c2])).mono fun e w' ⟨a, b⟩ => ⟨a, 0, b.symm⟩
      · rw [if_neg c2]
        have hfin : FK.rg v < 9218868437227405312 := by
          rw [sr_max] at c1
          rw [sr_min] at c2
          unfold FK.sr at c1 c2
          cases hs : FK.sg v <;> rw [hs] at c1 c2 <;> simp at c1 c2 <;> omega
        have hi2 : (fo (Op.negFloat .f64 v) 9218868437227405311 == some .gt) = false := FK.not_inf (by rw [FK.rg_neg]; exact hfin)
        exact (of_mid f v _ w h2 hnan k1' hi (by rw [k2]; simp [c2]) hi2 (FK.toI32 v hfin (by omega) (by omega))).mono fun e w' ⟨a, b⟩ => ⟨a, 0, b.symm⟩

theorem rof_max (a v : Nat) (w : World) (hm : floatBits .mul .f64 a 4679240012837945344 = some v) (hn : (fo a a != some .eq) = false) (h1 : (fo v 4746794007244308480 == some .gt || fo v 4746794007244308480 == some .eq) = true) :
    Calls Try.prog 25 #[.float .f64 a] w fun e w' => e = .returned (.int .i32 2147483647) ∧ w = w' := by
  have hr := fun (W : World) => run_float_arith (P := Try.prog) W .mul 22 .f64 a _ v hm
  have Hm := Lib.hid hm
  clear hm
  go_enter Try.func25, Try.ntmps25
  go_wp2_with fail
  refine (risnan_any _ _).mono ?_
  rintro e w' ⟨rfl, rfl⟩
  rw [hn]
  go_wp2_with fail
  go_ret
  exact ⟨rfl, rfl⟩
theorem rof_min (a v : Nat) (w : World) (hm : floatBits .mul .f64 a 4679240012837945344 = some v) (hn : (fo a a != some .eq) = false) (h1 : (fo v 4746794007244308480 == some .gt || fo v 4746794007244308480 == some .eq) = false)
    (h3 : (fo v 13970166044103278592 == some .lt || fo v 13970166044103278592 == some .eq) = true) :
    Calls Try.prog 25 #[.float .f64 a] w fun e w' => e = .returned (.int .i32 (-2147483648)) ∧ w = w' := by
  have hr := fun (W : World) => run_float_arith (P := Try.prog) W .mul 22 .f64 a _ v hm
  have Hm := Lib.hid hm
  clear hm
  go_enter Try.func25, Try.ntmps25
  go_wp2_with fail
  refine (risnan_any _ _).mono ?_
  rintro e w' ⟨rfl, rfl⟩
  rw [hn]
  go_wp2_with fail
  go_ret
  exact ⟨rfl, rfl⟩
theorem rof_mid (a v : Nat) (r : Int) (w : World) (hm : floatBits .mul .f64 a 4679240012837945344 = some v) (hn : (fo a a != some .eq) = false) (h1 : (fo v 4746794007244308480 == some .gt || fo v 4746794007244308480 == some .eq) = false)
    (h3 : (fo v 13970166044103278592 == some .lt || fo v 13970166044103278592 == some .eq) = false) (hc : floatToIntVal .f64 v .i32 = some r) :
    Calls Try.prog 25 #[.float .f64 a] w fun e w' => e = .returned (.int .i32 r) ∧ w = w' := by
  have hr := fun (W : World) => run_float_arith (P := Try.prog) W .mul 22 .f64 a _ v hm
  have hk := fun (W : World) => run_convert_float_int (P := Try.prog) W 22 21 .f64 .i32 v r (by rw [Try.underlying22]; rfl) Try.underlying21 hc
  have Hm := Lib.hid hm
  have HC := Lib.hid hc
  clear hm hc
  go_enter Try.func25, Try.ntmps25
  go_wp2_with fail
  refine (risnan_any _ _).mono ?_
  rintro e w' ⟨rfl, rfl⟩
  rw [hn]
  go_wp2_with fail
  go_ret
  exact ⟨rfl, rfl⟩
theorem rof_nan (a : Nat) (w : World) (hm : floatBits .mul .f64 a 4679240012837945344 = none) (hn : (fo a a != some .eq) = true) :
    Calls Try.prog 25 #[.float .f64 a] w fun e w' => e = .returned (.int .i32 0) ∧ w' = w.drew := by
  obtain ⟨v, hr, _⟩ := run_mul_nan a 4679240012837945344 hm w
  have Hm := Lib.hid hm
  clear hm
  go_enter Try.func25, Try.ntmps25
  go_wp2_with fail
  refine (risnan_any _ _).mono ?_
  rintro e w' ⟨rfl, rfl⟩
  rw [hn]
  go_wp2_with fail
  go_ret
  exact ⟨rfl, rfl⟩

theorem rof_any (f : Nat) (w : World) : Calls Try.prog 25 #[.float .f64 f] w fun e w' => e = .returned (.int .i32 (ofF f)) ∧ ∃ n, w' = w.drewN n := by
  rcases mulK_cases f with ⟨h1, h2⟩ | ⟨h1, v, h2, h3⟩
  · have e : ofF f = 0 := by unfold ofF; rw [h2]
    rw [e]
    have hn : (fo f f != some .eq) = true := by
      show (Ieee.double.order f f != some .eq) = true
      rw [nan_order h1]; rfl
    exact (rof_nan f w h2 hn).mono fun e w' ⟨a, b⟩ => ⟨a, 1, b⟩
  · have hnan : (fo f f != some .eq) = false := FK.eq_self _ h1
    unfold ofF; rw [h2]
    simp only
    have k1 := ge_sr h3 (y := 4746794007244308480) (by decide)
    have k2 := le_sr h3 (y := 13970166044103278592) (by decide)
    by_cases c1 : FK.sr 4746794007244308480 ≤ FK.sr v
    · rw [if_pos c1]
      exact (rof_max f v w h2 hnan (by rw [k1]; simp [c1])).mono fun e w' ⟨a, b⟩ => ⟨a, 0, b.symm⟩
    · rw [if_neg c1]
      have k1' : (fo v 4746794007244308480 == some .gt || fo v 4746794007244308480 == some .eq) = false := by rw [k1]; simp [c1]
      by_cases c2 : FK.sr v ≤ FK.sr 13970166044103278592
      · rw [if_pos c2]
        exact (rof_min f v w h2 hnan k1' (by rw [k2]; simp [c2])).mono fun e w' ⟨a, b⟩ => ⟨a, 0, b.symm⟩
      · rw [if_neg c2]
        have hfin : FK.rg v < 9218868437227405312 := by
          rw [sr_max] at c1
          rw [sr_min] at c2
          unfold FK.sr at c1 c2
          cases hs : FK.sg v <;> rw [hs] at c1 c2 <;> simp at c1 c2 <;> omega
        exact (rof_mid f v _ w h2 hnan k1' (by rw [k2]; simp [c2]) (FK.toI32 v hfin (by omega) (by omega))).mono fun e w' ⟨a, b⟩ => ⟨a, 0, b.symm⟩

theorem rroot_any (a : Int) (w : World) (a1 : a ≤ 2147483647) :
    Calls Try.prog 21 #[.int .i32 a] w fun e w' => (∃ r : Int, e = .returned (.int .i32 r) ∧ RootOf a r) ∧ w = w' := by
  by_cases h : 0 < a
  · exact (rroot_pos a w h a1).mono fun e w' ⟨⟨r, h1, h2⟩, h3⟩ => ⟨⟨r, h1, fun h => by omega, fun _ => h2⟩, h3⟩
  · exact (rroot_zero a w (by omega)).mono fun e w' ⟨h1, h3⟩ => ⟨⟨0, h1, fun _ => rfl, fun h => by omega⟩, h3⟩
theorem RootOf.unique {a r s : Int} (h : RootOf a r) (k : RootOf a s) : r = s := by
  by_cases h0 : 0 < a
  · exact (h.2 h0).unique (k.2 h0)
  · rw [h.1 (by omega), k.1 (by omega)]

theorem below_drewN (w : World) (n : Nat) : Below w.heap.size w (w.drewN n) := ⟨rfl, rfl, rfl, Nat.le_refl _, fun _ _ => rfl⟩

theorem beq_rfl (a : Int) : (a == a) = true := by simp

set_option maxHeartbeats 1000000 in
theorem law_FixAsks (a0 a1 a2 : Int) (a3 : Nat) (w0 : (Lit.int .i32 a0).wf = true) (w1 : (Lit.int .i32 a1).wf = true) (w2 : (Lit.int .i32 a2).wf = true) (w3 : (Lit.float .f64 a3).wf = true) (w : World) :
    Calls Try.prog 3 #[.int .i32 a0, .int .i32 a1, .int .i32 a2, .float .f64 a3] w fun e w' => e = .returned (.bool true) ∧ Below w.heap.size w w' := by
  obtain ⟨a00, a01⟩ := i32_bd w0
  obtain ⟨a10, a11⟩ := i32_bd w1
  clear w0 w1 w2 w3
  have q1 := beq_rfl (cl (a0 + a1))
  have q2 := beq_rfl (cl (a0 - a1))
  have q3 := beq_rfl (cl ((a0 * a1).tdiv 65536))
  have q4 := beq_rfl (cl (divV a0 a1))
  have q5 := beq_rfl (clampV a0 a1 a2)
  have q6 := beq_rfl (ofF a3)
  go_enter Try.func3, Try.ntmps3
  go_wp2_with fail
  refine (told_law _).mono ?_
  rintro e w' ⟨rfl, rfl⟩
  have hB := below_drew w
  generalize w.drew = w1 at hB ⊢
  go_wp2_with fail
  refine (add_any _ _ _ (by omega) (by omega) (by omega) (by omega)).mono ?_
  rintro e w' ⟨rfl, rfl⟩
  go_wp2_with fail
  refine (radd_any _ _ _ (by omega) (by omega) (by omega) (by omega)).mono ?_
  rintro e w' ⟨rfl, rfl⟩
  go_wp2_with fail
  refine (sub_any _ _ _ (by omega) (by omega) (by omega) (by omega)).mono ?_
  rintro e w' ⟨rfl, rfl⟩
  go_wp2_with fail
  refine (rsub_any _ _ _ (by omega) (by omega) (by omega) (by omega)).mono ?_
  rintro e w' ⟨rfl, rfl⟩
  go_wp2_with fail
  refine (mul_any _ _ _ (by omega) (by omega) (by omega) (by omega)).mono ?_
  rintro e w' ⟨rfl, rfl⟩
  go_wp2_with fail
  refine (rmul_any _ _ _ (by omega) (by omega) (by omega) (by omega)).mono ?_
  rintro e w' ⟨rfl, rfl⟩
  go_wp2_with fail
  refine (div_any _ _ _ (by omega) (by omega) (by omega) (by omega)).mono ?_
  rintro e w' ⟨rfl, rfl⟩
  go_wp2_with fail
  refine (rdiv_any _ _ _ (by omega) (by omega) (by omega) (by omega)).mono ?_
  rintro e w' ⟨rfl, rfl⟩
  go_wp2_with fail
  refine (root_any _ _ (by omega)).mono ?_
  rintro e w' ⟨⟨r, rfl, hr⟩, rfl⟩
  have Hr := Lib.hid hr
  clear hr
  go_wp2_with fail
  refine (rroot_any _ _ (by omega)).mono ?_
  rintro e w' ⟨⟨s, rfl, hs⟩, rfl⟩
  obtain rfl : r = s := Hr.out.unique hs
  have q7 := beq_rfl r
  clear hs
  go_wp2_with fail
  refine (clamp_any _ _ _ _).mono ?_
  rintro e w' ⟨rfl, rfl⟩
  go_wp2_with fail
  refine (rclamp_any _ _ _ _).mono ?_
  rintro e w' ⟨rfl, rfl⟩
  go_wp2_with fail
  refine (of_any _ _).mono ?_
  rintro e w' ⟨rfl, n1, rfl⟩
  have hB2 : Below w.heap.size w (w1.drewN n1) := hB.trans ⟨rfl, rfl, rfl, Nat.le_refl _, fun _ _ => rfl⟩
  clear hB
  generalize w1.drewN n1 = w2 at hB2 ⊢
  go_wp2_with fail
  refine (rof_any _ _).mono ?_
  rintro e w' ⟨rfl, n2, rfl⟩
  have hB3 : Below w.heap.size w (w2.drewN n2) := hB2.trans ⟨rfl, rfl, rfl, Nat.le_refl _, fun _ _ => rfl⟩
  clear hB2
  generalize w2.drewN n2 = w3 at hB3 ⊢
  go_wp2_with fail
  go_ret
  exact ⟨rfl, hB3⟩
end Go.Proofs.Ytikmlkfimphjiaa
