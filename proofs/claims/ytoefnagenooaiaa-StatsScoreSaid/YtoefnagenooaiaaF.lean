/-
  Stats: the Go text of StatsScore returns true for every input.
-/
import Derived.Test.YtoefnagenooaiaaE
namespace Go.Proofs.Ytoefnagenooaiaa
set_option linter.unusedVariables false
open Go.ChangeShapes Go.WideShapes Go.ChangeAt Go.RowKit
attribute [local go_sem] run_neg_f64 frombits_run bits_run run_store_float


/-- The tests of two scores. -/
structure Scores (m s a b x y : Nat) : Prop where
  sx : IsScore m s a x
  sy : IsScore m s b y
  x0 : (fo x 0 == some .lt) = false
  x1 : (fo x 4607182418800017408 == some .gt) = false
  xn : (fo x x != some .eq) = false
  y0 : (fo y 0 == some .lt) = false
  y1 : (fo y 4607182418800017408 == some .gt) = false
  yn : (fo y y != some .eq) = false
  xz : (fo x 0 == some .eq) = decide (x = 0)
  lt : x < 9223372036854775808
theorem isScore_le {m s a q : Nat} (h : IsScore m s a q) : q ≤ 4607182418800017408 := by
  rcases h with ⟨_, _, _, z1, z2, z3, z4, l, S⟩ | ⟨_, rfl⟩
  · exact S.hi
  · omega
theorem q_tests {q : Nat} (h : q ≤ 4607182418800017408) : (fo q 0 == some .lt) = false ∧ (fo q 4607182418800017408 == some .gt) = false ∧ (fo q q != some .eq) = false := by
  rw [ord_pos (x := q) (y := 0) (by omega) (by decide), ord_pos (x := q) (y := 4607182418800017408) (by omega) (by decide), ord_pos (x := q) (y := q) (by omega) (by omega)]
  refine ⟨?_, ?_, ?_⟩
  · rcases cmp_cases (q : Int) ((0 : Nat) : Int) with ⟨h, e⟩ | ⟨h, e⟩ | ⟨h, e⟩ <;> rw [e] <;> simp <;> omega
  · rcases cmp_cases (q : Int) ((4607182418800017408 : Nat) : Int) with ⟨h, e⟩ | ⟨h, e⟩ | ⟨h, e⟩ <;> rw [e] <;> simp <;> omega
  · rw [FK.cmp_eq rfl]; rfl
theorem scores_of {m s a b x y : Nat} (h1 : IsScore m s a x) (h2 : IsScore m s b y) : Scores m s a b x y := by
  have l1 := isScore_le h1
  have l2 := isScore_le h2
  obtain ⟨a1, a2, a3⟩ := q_tests l1
  obtain ⟨b1, b2, b3⟩ := q_tests l2
  exact ⟨h1, h2, a1, a2, a3, b1, b2, b3, q_zero l1, by omega⟩

set_option maxHeartbeats 1000000 in
theorem score_walk_zttt (m s a b y : Nat) (S : Scores m s a b 0 0) (hz : (fo 0 0 == some .eq) = true) (hab : (fo a b == some .lt || fo a b == some .eq) = true)(hm : (fo m 0 == some .gt || fo m 0 == some .eq) = true)(hs : (fo s 0 == some .gt || fo s 0 == some .eq) = true) (w : World) :
    Calls Try.prog 6 #[.float .f64 m, .float .f64 s, .float .f64 a, .float .f64 b] w fun e w' => e = .returned (.bool true) ∧ Below w.heap.size w w' := by
  obtain ⟨sx, sy, x0, x1, xn, y0, y1, yn, xz, lt⟩ := S
  have SX := Lib.hid sx
  have SY := Lib.hid sy
  clear sx sy xz
  go_enter Try.func6, Try.ntmps6
  go_wp2_with fail
  refine (score_any _ _ _ _ SX.out _).mono ?_
  rintro e w' ⟨rfl, rfl⟩
  go_wp2_with fail
  refine (score_any _ _ _ _ SY.out _).mono ?_
  rintro e w' ⟨rfl, rfl⟩
  go_wp2_with fail
  refine (signbit_pos _ (by decide) _).mono ?_
  rintro e w' ⟨rfl, rfl⟩
  go_wp2_with fail
  refine (told_law _).mono ?_
  rintro e w1 ⟨rfl, hB⟩
  go_wp2_with fail
  go_ret
  exact ⟨rfl, hB⟩
set_option maxHeartbeats 1000000 in
theorem score_walk_zttf (m s a b y : Nat) (S : Scores m s a b 0 0) (hz : (fo 0 0 == some .eq) = true) (hab : (fo a b == some .lt || fo a b == some .eq) = true)(hm : (fo m 0 == some .gt || fo m 0 == some .eq) = true)(hs : (fo s 0 == some .gt || fo s 0 == some .eq) = false) (w : World) :
    Calls Try.prog 6 #[.float .f64 m, .float .f64 s, .float .f64 a, .float .f64 b] w fun e w' => e = .returned (.bool true) ∧ Below w.heap.size w w' := by
  obtain ⟨sx, sy, x0, x1, xn, y0, y1, yn, xz, lt⟩ := S
  have SX := Lib.hid sx
  have SY := Lib.hid sy
  clear sx sy xz
  go_enter Try.func6, Try.ntmps6
  go_wp2_with fail
  refine (score_any _ _ _ _ SX.out _).mono ?_
  rintro e w' ⟨rfl, rfl⟩
  go_wp2_with fail
  refine (score_any _ _ _ _ SY.out _).mono ?_
  rintro e w' ⟨rfl, rfl⟩
  go_wp2_with fail
  refine (signbit_pos _ (by decide) _).mono ?_
  rintro e w' ⟨rfl, rfl⟩
  go_wp2_with fail
  refine (told_law _).mono ?_
  rintro e w1 ⟨rfl, hB⟩
  go_wp2_with fail
  go_ret
  exact ⟨rfl, hB⟩
set_option maxHeartbeats 1000000 in
theorem score_walk_ztft (m s a b y : Nat) (S : Scores m s a b 0 0) (hz : (fo 0 0 == some .eq) = true) (hab : (fo a b == some .lt || fo a b == some .eq) = true)(hm : (fo m 0 == some .gt || fo m 0 == some .eq) = false)(hs : (fo s 0 == some .gt || fo s 0 == some .eq) = true) (w : World) :
    Calls Try.prog 6 #[.float .f64 m, .float .f64 s, .float .f64 a, .float .f64 b] w fun e w' => e = .returned (.bool true) ∧ Below w.heap.size w w' := by
  obtain ⟨sx, sy, x0, x1, xn, y0, y1, yn, xz, lt⟩ := S
  have SX := Lib.hid sx
  have SY := Lib.hid sy
  clear sx sy xz
  go_enter Try.func6, Try.ntmps6
  go_wp2_with fail
  refine (score_any _ _ _ _ SX.out _).mono ?_
  rintro e w' ⟨rfl, rfl⟩
  go_wp2_with fail
  refine (score_any _ _ _ _ SY.out _).mono ?_
  rintro e w' ⟨rfl, rfl⟩
  go_wp2_with fail
  refine (signbit_pos _ (by decide) _).mono ?_
  rintro e w' ⟨rfl, rfl⟩
  go_wp2_with fail
  refine (told_law _).mono ?_
  rintro e w1 ⟨rfl, hB⟩
  go_wp2_with fail
  go_ret
  exact ⟨rfl, hB⟩
set_option maxHeartbeats 1000000 in
theorem score_walk_ztff (m s a b y : Nat) (S : Scores m s a b 0 0) (hz : (fo 0 0 == some .eq) = true) (hab : (fo a b == some .lt || fo a b == some .eq) = true)(hm : (fo m 0 == some .gt || fo m 0 == some .eq) = false)(hs : (fo s 0 == some .gt || fo s 0 == some .eq) = false) (w : World) :
    Calls Try.prog 6 #[.float .f64 m, .float .f64 s, .float .f64 a, .float .f64 b] w fun e w' => e = .returned (.bool true) ∧ Below w.heap.size w w' := by
  obtain ⟨sx, sy, x0, x1, xn, y0, y1, yn, xz, lt⟩ := S
  have SX := Lib.hid sx
  have SY := Lib.hid sy
  clear sx sy xz
  go_enter Try.func6, Try.ntmps6
  go_wp2_with fail
  refine (score_any _ _ _ _ SX.out _).mono ?_
  rintro e w' ⟨rfl, rfl⟩
  go_wp2_with fail
  refine (score_any _ _ _ _ SY.out _).mono ?_
  rintro e w' ⟨rfl, rfl⟩
  go_wp2_with fail
  refine (signbit_pos _ (by decide) _).mono ?_
  rintro e w' ⟨rfl, rfl⟩
  go_wp2_with fail
  refine (told_law _).mono ?_
  rintro e w1 ⟨rfl, hB⟩
  go_wp2_with fail
  go_ret
  exact ⟨rfl, hB⟩
set_option maxHeartbeats 1000000 in
theorem score_walk_pt (m s a b x y : Nat) (S : Scores m s a b x y) (hz : (fo x 0 == some .eq) = false) (hab : (fo a b == some .lt || fo a b == some .eq) = true)(hyx : (fo y x == some .lt || fo y x == some .eq) = true)(hm : (fo m 0 == some .gt || fo m 0 == some .eq) = true)(hs : (fo s 0 == some .gt || fo s 0 == some .eq) = true) (w : World) :
    Calls Try.prog 6 #[.float .f64 m, .float .f64 s, .float .f64 a, .float .f64 b] w fun e w' => e = .returned (.bool true) ∧ Below w.heap.size w w' := by
  obtain ⟨sx, sy, x0, x1, xn, y0, y1, yn, xz, lt⟩ := S
  have SX := Lib.hid sx
  have SY := Lib.hid sy
  clear sx sy xz
  go_enter Try.func6, Try.ntmps6
  go_wp2_with fail
  refine (score_any _ _ _ _ SX.out _).mono ?_
  rintro e w' ⟨rfl, rfl⟩
  go_wp2_with fail
  refine (score_any _ _ _ _ SY.out _).mono ?_
  rintro e w' ⟨rfl, rfl⟩
  go_wp2_with fail
  refine (told_law _).mono ?_
  rintro e w1 ⟨rfl, hB⟩
  go_wp2_with fail
  go_ret
  exact ⟨rfl, hB⟩
set_option maxHeartbeats 1000000 in
theorem score_walk_zftt (m s a b y : Nat) (S : Scores m s a b 0 y) (hz : (fo 0 0 == some .eq) = true) (hab : (fo a b == some .lt || fo a b == some .eq) = false)(hm : (fo m 0 == some .gt || fo m 0 == some .eq) = true)(hs : (fo s 0 == some .gt || fo s 0 == some .eq) = true) (w : World) :
    Calls Try.prog 6 #[.float .f64 m, .float .f64 s, .float .f64 a, .float .f64 b] w fun e w' => e = .returned (.bool true) ∧ Below w.heap.size w w' := by
  obtain ⟨sx, sy, x0, x1, xn, y0, y1, yn, xz, lt⟩ := S
  have SX := Lib.hid sx
  have SY := Lib.hid sy
  clear sx sy xz
  go_enter Try.func6, Try.ntmps6
  go_wp2_with fail
  refine (score_any _ _ _ _ SX.out _).mono ?_
  rintro e w' ⟨rfl, rfl⟩
  go_wp2_with fail
  refine (score_any _ _ _ _ SY.out _).mono ?_
  rintro e w' ⟨rfl, rfl⟩
  go_wp2_with fail
  refine (signbit_pos _ (by decide) _).mono ?_
  rintro e w' ⟨rfl, rfl⟩
  go_wp2_with fail
  refine (told_law _).mono ?_
  rintro e w1 ⟨rfl, hB⟩
  go_wp2_with fail
  go_ret
  exact ⟨rfl, hB⟩
set_option maxHeartbeats 1000000 in
theorem score_walk_zftf (m s a b y : Nat) (S : Scores m s a b 0 y) (hz : (fo 0 0 == some .eq) = true) (hab : (fo a b == some .lt || fo a b == some .eq) = false)(hm : (fo m 0 == some .gt || fo m 0 == some .eq) = true)(hs : (fo s 0 == some .gt || fo s 0 == some .eq) = false) (w : World) :
    Calls Try.prog 6 #[.float .f64 m, .float .f64 s, .float .f64 a, .float .f64 b] w fun e w' => e = .returned (.bool true) ∧ Below w.heap.size w w' := by
  obtain ⟨sx, sy, x0, x1, xn, y0, y1, yn, xz, lt⟩ := S
  have SX := Lib.hid sx
  have SY := Lib.hid sy
  clear sx sy xz
  go_enter Try.func6, Try.ntmps6
  go_wp2_with fail
  refine (score_any _ _ _ _ SX.out _).mono ?_
  rintro e w' ⟨rfl, rfl⟩
  go_wp2_with fail
  refine (score_any _ _ _ _ SY.out _).mono ?_
  rintro e w' ⟨rfl, rfl⟩
  go_wp2_with fail
  refine (signbit_pos _ (by decide) _).mono ?_
  rintro e w' ⟨rfl, rfl⟩
  go_wp2_with fail
  refine (told_law _).mono ?_
  rintro e w1 ⟨rfl, hB⟩
  go_wp2_with fail
  go_ret
  exact ⟨rfl, hB⟩
set_option maxHeartbeats 1000000 in
theorem score_walk_zfft (m s a b y : Nat) (S : Scores m s a b 0 y) (hz : (fo 0 0 == some .eq) = true) (hab : (fo a b == some .lt || fo a b == some .eq) = false)(hm : (fo m 0 == some .gt || fo m 0 == some .eq) = false)(hs : (fo s 0 == some .gt || fo s 0 == some .eq) = true) (w : World) :
    Calls Try.prog 6 #[.float .f64 m, .float .f64 s, .float .f64 a, .float .f64 b] w fun e w' => e = .returned (.bool true) ∧ Below w.heap.size w w' := by
  obtain ⟨sx, sy, x0, x1, xn, y0, y1, yn, xz, lt⟩ := S
  have SX := Lib.hid sx
  have SY := Lib.hid sy
  clear sx sy xz
  go_enter Try.func6, Try.ntmps6
  go_wp2_with fail
  refine (score_any _ _ _ _ SX.out _).mono ?_
  rintro e w' ⟨rfl, rfl⟩
  go_wp2_with fail
  refine (score_any _ _ _ _ SY.out _).mono ?_
  rintro e w' ⟨rfl, rfl⟩
  go_wp2_with fail
  refine (signbit_pos _ (by decide) _).mono ?_
  rintro e w' ⟨rfl, rfl⟩
  go_wp2_with fail
  refine (told_law _).mono ?_
  rintro e w1 ⟨rfl, hB⟩
  go_wp2_with fail
  go_ret
  exact ⟨rfl, hB⟩
set_option maxHeartbeats 1000000 in
theorem score_walk_zfff (m s a b y : Nat) (S : Scores m s a b 0 y) (hz : (fo 0 0 == some .eq) = true) (hab : (fo a b == some .lt || fo a b == some .eq) = false)(hm : (fo m 0 == some .gt || fo m 0 == some .eq) = false)(hs : (fo s 0 == some .gt || fo s 0 == some .eq) = false) (w : World) :
    Calls Try.prog 6 #[.float .f64 m, .float .f64 s, .float .f64 a, .float .f64 b] w fun e w' => e = .returned (.bool true) ∧ Below w.heap.size w w' := by
  obtain ⟨sx, sy, x0, x1, xn, y0, y1, yn, xz, lt⟩ := S
  have SX := Lib.hid sx
  have SY := Lib.hid sy
  clear sx sy xz
  go_enter Try.func6, Try.ntmps6
  go_wp2_with fail
  refine (score_any _ _ _ _ SX.out _).mono ?_
  rintro e w' ⟨rfl, rfl⟩
  go_wp2_with fail
  refine (score_any _ _ _ _ SY.out _).mono ?_
  rintro e w' ⟨rfl, rfl⟩
  go_wp2_with fail
  refine (signbit_pos _ (by decide) _).mono ?_
  rintro e w' ⟨rfl, rfl⟩
  go_wp2_with fail
  refine (told_law _).mono ?_
  rintro e w1 ⟨rfl, hB⟩
  go_wp2_with fail
  go_ret
  exact ⟨rfl, hB⟩
set_option maxHeartbeats 1000000 in
theorem score_walk_pf (m s a b x y : Nat) (S : Scores m s a b x y) (hz : (fo x 0 == some .eq) = false) (hab : (fo a b == some .lt || fo a b == some .eq) = false)(hm : (fo m 0 == some .gt || fo m 0 == some .eq) = true)(hs : (fo s 0 == some .gt || fo s 0 == some .eq) = true) (w : World) :
    Calls Try.prog 6 #[.float .f64 m, .float .f64 s, .float .f64 a, .float .f64 b] w fun e w' => e = .returned (.bool true) ∧ Below w.heap.size w w' := by
  obtain ⟨sx, sy, x0, x1, xn, y0, y1, yn, xz, lt⟩ := S
  have SX := Lib.hid sx
  have SY := Lib.hid sy
  clear sx sy xz
  go_enter Try.func6, Try.ntmps6
  go_wp2_with fail
  refine (score_any _ _ _ _ SX.out _).mono ?_
  rintro e w' ⟨rfl, rfl⟩
  go_wp2_with fail
  refine (score_any _ _ _ _ SY.out _).mono ?_
  rintro e w' ⟨rfl, rfl⟩
  go_wp2_with fail
  refine (told_law _).mono ?_
  rintro e w1 ⟨rfl, hB⟩
  go_wp2_with fail
  go_ret
  exact ⟨rfl, hB⟩

theorem le_sr {a b : Nat} (h : (fo a b == some .lt || fo a b == some .eq) = true) : FK.rg a ≤ 9218868437227405312 ∧ FK.rg b ≤ 9218868437227405312 ∧ FK.sr a ≤ FK.sr b := by
  by_cases ha : 9218868437227405312 < FK.rg a
  · rw [fo_nan ha] at h; simp at h
  by_cases hb : 9218868437227405312 < FK.rg b
  · rw [fo_nan2 hb] at h; simp at h
  have e := leB_eq (x := a) (y := b) (by omega) (by omega)
  unfold leB at e
  rw [e] at h
  exact ⟨by omega, by omega, by simpa using h⟩
theorem unit_mono {a b : Nat} (ha : a < 18446744073709551616) (hb : b < 18446744073709551616) (h1 : FK.rg a ≤ 9218868437227405312) (h2 : FK.rg b ≤ 9218868437227405312) (h : FK.sr a ≤ FK.sr b) : unitF a ≤ unitF b := by
  have la := unit_le a ha
  have n1 : nanB a = false := by rw [nanB_eq]; simp; omega
  have n2 : nanB b = false := by rw [nanB_eq]; simp; omega
  unfold unitF at la ⊢
  rw [n1, leB_eq h1 rg_0, geB_eq h1 rg_1, sr_0, sr_1] at la
  rw [n1, n2, leB_eq h1 rg_0, leB_eq h2 rg_0, geB_eq h1 rg_1, geB_eq h2 rg_1, sr_0, sr_1]
  have e := FK.mkw_self a ha
  have e2 := FK.mkw_self b hb
  have sa : FK.sr a = if FK.sg a then -(FK.rg a : Int) else FK.rg a := rfl
  have sb : FK.sr b = if FK.sg b then -(FK.rg b : Int) else FK.rg b := rfl
  by_cases c1 : FK.sr a ≤ 0
  · simp [c1]
  have d1 : ¬ FK.sr b ≤ 0 := by omega
  by_cases d2 : 4607182418800017408 ≤ FK.sr b
  · simp only [c1, d1, d2, decide_false, decide_true, Bool.or_false, Bool.false_eq_true, if_false, if_true] at la ⊢
    exact la
  have c2 : ¬ 4607182418800017408 ≤ FK.sr a := by omega
  simp only [c1, c2, d1, d2, decide_false, Bool.or_false, Bool.false_eq_true, if_false]
  cases hg : FK.sg a <;> rw [hg] at sa e <;> simp at sa
  · cases hg2 : FK.sg b <;> rw [hg2] at sb e2 <;> simp at sb
    · rw [FK.mkf] at e e2; omega
    · omega
  · omega
theorem anti {m s a b x y : Nat} (ha : a < 18446744073709551616) (hb : b < 18446744073709551616) (h1 : IsScore m s a x) (h2 : IsScore m s b y) (hab : (fo a b == some .lt || fo a b == some .eq) = true) : y ≤ x := by
  obtain ⟨r1, r2, hs⟩ := le_sr hab
  have n1 : nanB a = false := by rw [nanB_eq]; simp; omega
  have n2 : nanB b = false := by rw [nanB_eq]; simp; omega
  rcases h1 with ⟨b1, b2, b3, z1, z2, z3, z4, l, S⟩ | ⟨c, rfl⟩
  · rcases h2 with ⟨_, _, _, w1, w2, w3, w4, k, T⟩ | ⟨c, rfl⟩
    · have e1 := T.mul; rw [S.mul] at e1; injection e1 with e1; subst e1
      have e2 := T.add; rw [S.add] at e2; injection e2 with e2; subst e2
      have e3 := T.div; rw [S.div] at e3; injection e3 with e3; subst e3
      have e4 := T.one; rw [S.one] at e4; injection e4 with e4; subst e4
      rw [T.quoIs, S.quoIs, T.leftIs, S.leftIs]
      exact FK.QI_mono (FK.Left_le _) S.z4lo (FK.Left_anti (unit_le a ha) (unit_le b hb) (unit_mono ha hb r1 r2 hs))
    · simp [b1, b2, n2] at c
  · rcases h2 with ⟨b1, b2, _, _⟩ | ⟨_, rfl⟩
    · simp [b1, b2, n1] at c
    · exact Nat.le_refl _
theorem good_ge {m : Nat} (h : badF m = false) : (fo m 0 == some .gt || fo m 0 == some .eq) = true := by
  unfold badF at h
  rw [nanB_eq] at h
  by_cases h0 : 9218868437227405312 < FK.rg m
  · simp [h0] at h
  rw [ltB_eq (by omega) rg_0, sr_0] at h
  have e := geB_eq (x := m) (y := 0) (by omega) rg_0
  unfold geB at e
  rw [e, sr_0]
  simp at h
  simp; omega
theorem law_StatsScore (a0 a1 a2 a3 : Nat) (w0 : (Lit.float .f64 a0).wf = true) (w1 : (Lit.float .f64 a1).wf = true) (w2 : (Lit.float .f64 a2).wf = true) (w3 : (Lit.float .f64 a3).wf = true) (w : World) :
    Calls Try.prog 6 #[.float .f64 a0, .float .f64 a1, .float .f64 a2, .float .f64 a3] w fun e w' => e = .returned (.bool true) ∧ Below w.heap.size w w' := by
  have b0 := f64_bd w0
  have b1 := f64_bd w1
  have b2 := f64_bd w2
  have b3 := f64_bd w3
  obtain ⟨x, hx⟩ := isScore_ex a0 a1 a2 b0 b1 b2
  obtain ⟨y, hy⟩ := isScore_ex a0 a1 a3 b0 b1 b3
  have S := scores_of hx hy
  have hz0 : (fo 0 0 == some .eq) = true := by decide +kernel
  by_cases hz : x = 0
  · subst hz
    cases hab : (fo a2 a3 == some .lt || fo a2 a3 == some .eq) with
    | true =>
      have hyx := anti b2 b3 hx hy hab
      obtain rfl : y = 0 := by omega
      cases hm : (fo a0 0 == some .gt || fo a0 0 == some .eq) <;> cases hs : (fo a1 0 == some .gt || fo a1 0 == some .eq)
      · exact score_walk_ztff _ _ _ _ 0 S hz0 hab hm hs w
      · exact score_walk_ztft _ _ _ _ 0 S hz0 hab hm hs w
      · exact score_walk_zttf _ _ _ _ 0 S hz0 hab hm hs w
      · exact score_walk_zttt _ _ _ _ 0 S hz0 hab hm hs w
    | false =>
      cases hm : (fo a0 0 == some .gt || fo a0 0 == some .eq) <;> cases hs : (fo a1 0 == some .gt || fo a1 0 == some .eq)
      · exact score_walk_zfff _ _ _ _ y S hz0 hab hm hs w
      · exact score_walk_zfft _ _ _ _ y S hz0 hab hm hs w
      · exact score_walk_zftf _ _ _ _ y S hz0 hab hm hs w
      · exact score_walk_zftt _ _ _ _ y S hz0 hab hm hs w
  · have hxz : (fo x 0 == some .eq) = false := by rw [S.xz]; simp [hz]
    have hg : badF a0 = false ∧ badF a1 = false := by
      rcases hx with ⟨b1, b2, _⟩ | ⟨_, e⟩
      · exact ⟨b1, b2⟩
      · exact absurd e hz
    cases hab : (fo a2 a3 == some .lt || fo a2 a3 == some .eq) with
    | true =>
      have hyx := anti b2 b3 hx hy hab
      have lx := isScore_le hx
      have hle : (fo y x == some .lt || fo y x == some .eq) = true := by
        rw [ord_pos (by omega) (by omega)]
        rcases cmp_cases (y : Int) (x : Int) with ⟨h, e⟩ | ⟨h, e⟩ | ⟨h, e⟩ <;> rw [e] <;> simp <;> omega
      exact score_walk_pt _ _ _ _ x y S hxz hab hle (good_ge hg.1) (good_ge hg.2) w
    | false => exact score_walk_pf _ _ _ _ x y S hxz hab (good_ge hg.1) (good_ge hg.2) w
end Go.Proofs.Ytoefnagenooaiaa
