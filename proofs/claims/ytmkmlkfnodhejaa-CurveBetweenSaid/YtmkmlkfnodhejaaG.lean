/-
  Curve: the Go text of CurveAsks returns true for every input.
-/
import Derived.Test.YtmkmlkfnodhejaaF
import Derived.IntWalk
namespace Go.Proofs.Ytmkmlkfnodhejaa
set_option linter.unusedVariables false
open Go.ChangeShapes Go.WideShapes Go.ChangeAt Go.RowKit
attribute [local go_sem] run_neg_f64 frombits_run bits_run

theorem rsame_1 (a b : Nat) (na : FK.nanB a = true) (nb : FK.nanB b = true) (w : World) :
    Calls Try.prog 13 #[.float .f64 a, .float .f64 b] w fun e w' => e = .returned (.bool true) ∧ w = w' := by
  go_enter Try.func13, Try.ntmps13
  go_wp2_with fail
  refine (rnan_any _ _).mono ?_
  rintro e w' ⟨rfl, rfl⟩
  rw [fo_nan]
  rw [na]
  go_wp2_with fail
  refine (rnan_any _ _).mono ?_
  rintro e w' ⟨rfl, rfl⟩
  rw [fo_nan]
  rw [nb]
  go_wp2_with fail
  go_ret
  exact ⟨rfl, rfl⟩
theorem rsame_2 (a b : Nat) (na : FK.nanB a = true) (nb : FK.nanB b = false) (w : World) :
    Calls Try.prog 13 #[.float .f64 a, .float .f64 b] w fun e w' => e = .returned (.bool ((a : Int) == (b : Int))) ∧ w = w' := by
  go_enter Try.func13, Try.ntmps13
  go_wp2_with fail
  refine (rnan_any _ _).mono ?_
  rintro e w' ⟨rfl, rfl⟩
  rw [fo_nan]
  rw [na]
  go_wp2_with fail
  refine (rnan_any _ _).mono ?_
  rintro e w' ⟨rfl, rfl⟩
  rw [fo_nan]
  rw [nb]
  go_wp2_with fail
  go_ret
  exact ⟨rfl, rfl⟩
theorem rsame_3 (a b : Nat) (na : FK.nanB a = false) (w : World) :
    Calls Try.prog 13 #[.float .f64 a, .float .f64 b] w fun e w' => e = .returned (.bool ((a : Int) == (b : Int))) ∧ w = w' := by
  go_enter Try.func13, Try.ntmps13
  go_wp2_with fail
  refine (rnan_any _ _).mono ?_
  rintro e w' ⟨rfl, rfl⟩
  rw [fo_nan]
  rw [na]
  go_wp2_with fail
  go_ret
  exact ⟨rfl, rfl⟩
theorem word_of_rank {a b : Nat} (ha : a < 18446744073709551616) (hb : b < 18446744073709551616) (na : FK.nanB a = false) (h : FK.rank a = FK.rank b) : a = b := by
  have ra := rank_cases a
  have rb := rank_cases b
  have nb : FK.nanB b = false := by
    cases nb : FK.nanB b with
    | false => rfl
    | true =>
      rw [na] at ra; rw [nb] at rb
      simp only [Bool.false_eq_true, false_and, false_or, true_and, Bool.true_eq_false, or_false] at ra rb
      omega
  have e1 := rank_nn na
  have e2 := rank_nn nb
  have ma := FK.mkw_self a ha
  have mb := FK.mkw_self b hb
  have : FK.sg a = FK.sg b ∧ FK.rg a = FK.rg b := by
    cases hsa : FK.sg a <;> cases hsb : FK.sg b <;> rw [hsa] at e1 <;> rw [hsb] at e2 <;> simp only [Bool.false_eq_true, if_false, if_true] at e1 e2
    · exact ⟨rfl, by omega⟩
    · omega
    · omega
    · exact ⟨rfl, by omega⟩
  rw [← ma, ← mb, this.1, this.2]
theorem rsame_any (a b : Nat) (ha : a < 18446744073709551616) (hb : b < 18446744073709551616) (w : World) :
    Calls Try.prog 13 #[.float .f64 a, .float .f64 b] w fun e w' => e = .returned (.bool (sameB a b)) ∧ w = w' := by
  have eq : FK.nanB a = false ∨ FK.nanB b = false → ((a : Int) == (b : Int)) = sameB a b := by
    intro hn
    unfold sameB
    by_cases h : a = b
    · subst h; simp
    · have h1 : FK.rank a ≠ FK.rank b := by
        intro e
        rcases hn with hn | hn
        · exact h (word_of_rank ha hb hn e)
        · exact h (word_of_rank hb ha hn e.symm).symm
      rw [decide_eq_false h1]
      rw [beq_eq_false_iff_ne]
      omega
  cases na : FK.nanB a with
  | false => rw [← eq (Or.inl na)]; exact rsame_3 a b na w
  | true =>
    cases nb : FK.nanB b with
    | false => rw [← eq (Or.inr nb)]; exact rsame_2 a b na nb w
    | true =>
      have : sameB a b = true := by
        unfold sameB FK.rank
        rw [na, nb]; simp
      rw [this]; exact rsame_1 a b na nb w
theorem rank_1 (a : Nat) (na : FK.nanB a = true) (w : World) :
    Calls Try.prog 31 #[.float .f64 a] w fun e w' => e = .returned (.int .i64 9223372036854775807) ∧ w = w' := by
  go_enter Try.func31, Try.ntmps31
  go_wp2_with fail
  refine (rnan_any _ _).mono ?_
  rintro e w' ⟨rfl, rfl⟩
  rw [fo_nan]
  rw [na]
  go_wp2_with fail
  go_ret
  exact ⟨rfl, rfl⟩
theorem rank_2 (a : Nat) (ha : a < 18446744073709551616) (na : FK.nanB a = false) (w : World) :
    Calls Try.prog 31 #[.float .f64 a] w fun e w' => e = .returned (.int .i64 (FK.rank a)) ∧ w = w' := by
  have e1 := rank_nn na
  have hr : FK.rg a ≤ 9218868437227405312 := by unfold FK.nanB at na; simp at na; omega
  have ea := u64_andNot a ha
  have ew : IntKind.i64.wrap (bits BinOp.andNot IntKind.u64 (a : Int) 9223372036854775808) = (FK.rg a : Int) := by rw [ea]; exact IntWalk.i64_in _ (by omega)
  cases hs : FK.sg a with
  | true =>
    have hb : ((a : Int) / 9223372036854775808 == 1) = true := by
      unfold FK.sg at hs
      rw [beq_iff_eq] at hs ⊢
      omega
    have hx : wrap64 (-wrap64 (bits BinOp.andNot IntKind.u64 (a : Int) 9223372036854775808) - 1) = FK.rank a := by
      rw [e1, hs, if_pos rfl, ea]; unfold wrap64; omega
    have hx2 : wrap64 (wrap64 (-wrap64 (bits BinOp.andNot IntKind.u64 (a : Int) 9223372036854775808)) - 1) = FK.rank a := by
      rw [e1, hs, if_pos rfl, ea]; unfold wrap64; omega
    have HX := Lib.hid hx
    have HX2 := Lib.hid hx2
    have NA := Lib.hid na
    clear e1 hr ea ew hs na ha hx hx2
    go_enter Try.func31, Try.ntmps31
    go_wp2_with fail
    refine (rnan_any _ _).mono ?_
    rintro e w' ⟨rfl, rfl⟩
    rw [fo_nan]
    rw [NA.out]
    go_wp2_with fail
    go_ret
    first | exact ⟨ret_int HX.out, rfl⟩ | exact ⟨ret_int HX2.out, rfl⟩
  | false =>
    have hb : ((a : Int) / 9223372036854775808 == 1) = false := by
      unfold FK.sg at hs
      rw [beq_eq_false_iff_ne] at hs ⊢
      omega
    have hx : wrap64 (bits BinOp.andNot IntKind.u64 (a : Int) 9223372036854775808) = FK.rank a := by
      rw [e1, hs, if_neg (by simp), ea]; unfold wrap64; omega
    have HX := Lib.hid hx
    have NA := Lib.hid na
    clear e1 hr ea ew hs na ha hx
    go_enter Try.func31, Try.ntmps31
    go_wp2_with fail
    refine (rnan_any _ _).mono ?_
    rintro e w' ⟨rfl, rfl⟩
    rw [fo_nan]
    rw [NA.out]
    go_wp2_with fail
    go_ret
    exact ⟨ret_int HX.out, rfl⟩
theorem rank_any (a : Nat) (ha : a < 18446744073709551616) (w : World) :
    Calls Try.prog 31 #[.float .f64 a] w fun e w' => e = .returned (.int .i64 (FK.rank a)) ∧ w = w' := by
  cases na : FK.nanB a with
  | false => exact rank_2 a ha na w
  | true =>
    have : FK.rank a = 9223372036854775807 := by unfold FK.rank; rw [na]; rfl
    rw [this]; exact rank_1 a na w
theorem rless_any (a b : Nat) (ha : a < 18446744073709551616) (hb : b < 18446744073709551616) (w : World) :
    Calls Try.prog 15 #[.float .f64 a, .float .f64 b] w fun e w' => e = .returned (.bool (lessB a b)) ∧ w = w' := by
  have HA := Lib.hid ha
  have HB := Lib.hid hb
  clear ha hb
  unfold lessB
  go_enter Try.func15, Try.ntmps15
  go_wp2_with fail
  refine (rank_any _ HA.out _).mono ?_
  rintro e w' ⟨rfl, rfl⟩
  go_wp2_with fail
  refine (rank_any _ HB.out _).mono ?_
  rintro e w' ⟨rfl, rfl⟩
  go_wp2_with fail
  go_ret
  exact ⟨rfl, rfl⟩
set_option maxHeartbeats 2000000 in
theorem law_CurveAsks (a0 a1 a2 : Nat) (w : World) (w0 : (Lit.float .f64 a0).wf = true) (w1 : (Lit.float .f64 a1).wf = true) (w2 : (Lit.float .f64 a2).wf = true) :
    Calls Try.prog 3 #[.float .f64 a0, .float .f64 a1, .float .f64 a2] w fun e w' => e = .returned (.bool true) ∧ Below w.heap.size w w' := by
  have HA := Lib.hid (f64_bd w0)
  have HB := Lib.hid (f64_bd w1)
  have HT := Lib.hid (f64_bd w2)
  clear w0 w1 w2
  obtain ⟨s, d, v, e, hE⟩ := FK.ease_ex (FK.unit_le a2 HT.out)
  have HE := Lib.hid (isEase_of hE)
  have HEL := Lib.hid (show e < 18446744073709551616 from by have := hE.le_e; omega)
  have HU := Lib.hid (show FK.unit a2 < 18446744073709551616 from by have := FK.unit_le a2 HT.out; omega)
  have HM := Lib.hid (mixF_lt (a := a0) (b := a1) HA.out HB.out HT.out)
  have HG := Lib.hid (turnG_bd a0).2.2.2.2
  obtain ⟨l1, h1⟩ : ∃ l, sameB a0 a1 = l := ⟨_, rfl⟩
  obtain ⟨l2, h2⟩ : ∃ l, lessB a0 a1 = l := ⟨_, rfl⟩
  have L1 := Lib.hid h1
  have L2 := Lib.hid h2
  have b1 : (l1 == l1) = true := by simp
  have b2 : (l2 == l2) = true := by simp
  clear hE h1 h2
  go_enter Try.func3, Try.ntmps3
  go_wp2_with fail
  refine (told_law _).mono ?_
  rintro e w1 ⟨rfl, hB1⟩
  go_wp2_with fail
  refine (same_any _ _ HA.out HB.out _).mono ?_
  rintro e w' ⟨rfl, rfl⟩
  rw [L1.out]
  go_wp2_with fail
  refine (rsame_any _ _ HA.out HB.out _).mono ?_
  rintro e w' ⟨rfl, rfl⟩
  rw [L1.out]
  go_wp2_with fail
  refine (less_any _ _ HA.out HB.out _).mono ?_
  rintro e w' ⟨rfl, rfl⟩
  rw [L2.out]
  go_wp2_with fail
  refine (rless_any _ _ HA.out HB.out _).mono ?_
  rintro e w' ⟨rfl, rfl⟩
  rw [L2.out]
  go_wp2_with fail
  refine (unit_any _ _).mono ?_
  rintro e w' ⟨rfl, rfl⟩
  go_wp2_with fail
  refine (runit_any _ _).mono ?_
  rintro e w' ⟨rfl, rfl⟩
  go_wp2_with fail
  refine (rsame_any _ _ HU.out HU.out _).mono ?_
  rintro e w' ⟨rfl, rfl⟩
  rw [sameB_self]
  go_wp2_with fail
  refine (mix_any _ _ _ HT.out _).mono ?_
  rintro e w2 ⟨rfl, hB2⟩
  go_wp2_with fail
  refine (rmix_any _ _ _ HT.out _).mono ?_
  rintro e w3 ⟨rfl, hB3⟩
  go_wp2_with fail
  refine (rsame_any _ _ HM.out HM.out _).mono ?_
  rintro e w' ⟨rfl, rfl⟩
  rw [sameB_self]
  go_wp2_with fail
  refine (ease_any _ _ _ _ _ HE.out _).mono ?_
  rintro e w' ⟨rfl, rfl⟩
  go_wp2_with fail
  refine (rease_any _ _ _ _ _ HE.out _).mono ?_
  rintro e w' ⟨rfl, rfl⟩
  go_wp2_with fail
  refine (rsame_any _ _ HEL.out HEL.out _).mono ?_
  rintro e w' ⟨rfl, rfl⟩
  rw [sameB_self]
  go_wp2_with fail
  refine (turn_any _ HA.out _).mono ?_
  rintro e w' ⟨rfl, rfl⟩
  go_wp2_with fail
  refine (rturn_any _ HA.out _).mono ?_
  rintro e w' ⟨rfl, rfl⟩
  go_wp2_with fail
  refine (rsame_any _ _ HG.out HG.out _).mono ?_
  rintro e w' ⟨rfl, rfl⟩
  rw [sameB_self]
  go_wp2_with fail
  go_ret
  exact ⟨rfl, (hB1.trans (hB2.mono hB1.size)).trans (hB3.mono (Nat.le_trans hB1.size hB2.size))⟩
end Go.Proofs.Ytmkmlkfnodhejaa
