/-
  Stats: what Score and Unit tell, the program's and the reference's.
-/
import Derived.Test.YtoefnagenooaiaaC
namespace Go.Proofs.Ytoefnagenooaiaa
set_option linter.unusedVariables false
open Go.ChangeShapes Go.WideShapes Go.ChangeAt Go.RowKit
attribute [local go_sem] run_neg_f64 frombits_run bits_run run_store_float

def nanB (x : Nat) : Bool := fo x x != some .eq
def ltB (x y : Nat) : Bool := fo x y == some .lt
def gtB (x y : Nat) : Bool := fo x y == some .gt
def leB (x y : Nat) : Bool := fo x y == some .lt || fo x y == some .eq
def geB (x y : Nat) : Bool := fo x y == some .gt || fo x y == some .eq
def badF (x : Nat) : Bool := nanB x || (ltB x 0 || gtB x 9218868437227405311)
def unitF (t : Nat) : Nat := if nanB t || leB t 0 then 0 else if geB t 4607182418800017408 then 4607182418800017408 else t

theorem unit_1 (t : Nat) (w : World) (h0 : nanB t = true) :
    Calls Try.prog 37 #[.float .f64 t] w fun e w' => e = .returned (.float .f64 0) ∧ w = w' := by
  try unfold nanB at *
  try unfold leB at *
  try unfold geB at *
  try unfold gtB at *
  go_enter Try.func37, Try.ntmps37
  go_wp2_with fail
  refine (isnan_any _ _).mono ?_
  rintro e w' ⟨rfl, rfl⟩
  rw [h0]
  go_wp2_with fail
  go_ret
  exact ⟨rfl, rfl⟩
theorem unit_2 (t : Nat) (w : World) (h0 : nanB t = false) (h1 : leB t 0 = true) :
    Calls Try.prog 37 #[.float .f64 t] w fun e w' => e = .returned (.float .f64 0) ∧ w = w' := by
  try unfold nanB at *
  try unfold leB at *
  try unfold geB at *
  try unfold gtB at *
  go_enter Try.func37, Try.ntmps37
  go_wp2_with fail
  refine (isnan_any _ _).mono ?_
  rintro e w' ⟨rfl, rfl⟩
  rw [h0]
  go_wp2_with fail
  go_ret
  exact ⟨rfl, rfl⟩
theorem unit_3 (t : Nat) (w : World) (h0 : nanB t = false) (h1 : leB t 0 = false) (h2 : geB t 4607182418800017408 = true) :
    Calls Try.prog 37 #[.float .f64 t] w fun e w' => e = .returned (.float .f64 4607182418800017408) ∧ w = w' := by
  try unfold nanB at *
  try unfold leB at *
  try unfold geB at *
  try unfold gtB at *
  go_enter Try.func37, Try.ntmps37
  go_wp2_with fail
  refine (isnan_any _ _).mono ?_
  rintro e w' ⟨rfl, rfl⟩
  rw [h0]
  go_wp2_with fail
  go_ret
  exact ⟨rfl, rfl⟩
theorem unit_4 (t : Nat) (w : World) (h0 : nanB t = false) (h1 : leB t 0 = false) (h2 : geB t 4607182418800017408 = false) :
    Calls Try.prog 37 #[.float .f64 t] w fun e w' => e = .returned (.float .f64 t) ∧ w = w' := by
  try unfold nanB at *
  try unfold leB at *
  try unfold geB at *
  try unfold gtB at *
  go_enter Try.func37, Try.ntmps37
  go_wp2_with fail
  refine (isnan_any _ _).mono ?_
  rintro e w' ⟨rfl, rfl⟩
  rw [h0]
  go_wp2_with fail
  go_ret
  exact ⟨rfl, rfl⟩
theorem unit_any (t : Nat) (w : World) : Calls Try.prog 37 #[.float .f64 t] w fun e w' => e = .returned (.float .f64 (unitF t)) ∧ w = w' := by
  unfold unitF
  cases h0 : nanB t
  · cases h1 : leB t 0
    · cases h2 : geB t 4607182418800017408
      · simp only [Bool.or_false, Bool.false_eq_true, if_false]; exact unit_4 t w h0 h1 h2
      · simp only [Bool.or_false, Bool.false_eq_true, if_false, if_true]; exact unit_3 t w h0 h1 h2
    · simp only [Bool.or_true, if_true]; exact unit_2 t w h0 h1
  · simp only [Bool.true_or, if_true]; exact unit_1 t w h0
theorem runit_1 (t : Nat) (w : World) (h2 : geB t 4607182418800017408 = true) :
    Calls Try.prog 38 #[.float .f64 t] w fun e w' => e = .returned (.float .f64 4607182418800017408) ∧ w = w' := by
  try unfold nanB at *
  try unfold leB at *
  try unfold geB at *
  try unfold gtB at *
  go_enter Try.func38, Try.ntmps38
  go_wp2_with fail
  go_ret
  exact ⟨rfl, rfl⟩
theorem runit_2 (t : Nat) (w : World) (h2 : geB t 4607182418800017408 = false) (h1 : gtB t 0 = true) :
    Calls Try.prog 38 #[.float .f64 t] w fun e w' => e = .returned (.float .f64 t) ∧ w = w' := by
  try unfold nanB at *
  try unfold leB at *
  try unfold geB at *
  try unfold gtB at *
  go_enter Try.func38, Try.ntmps38
  go_wp2_with fail
  go_ret
  exact ⟨rfl, rfl⟩
theorem runit_3 (t : Nat) (w : World) (h2 : geB t 4607182418800017408 = false) (h1 : gtB t 0 = false) :
    Calls Try.prog 38 #[.float .f64 t] w fun e w' => e = .returned (.float .f64 0) ∧ w = w' := by
  try unfold nanB at *
  try unfold leB at *
  try unfold geB at *
  try unfold gtB at *
  go_enter Try.func38, Try.ntmps38
  go_wp2_with fail
  go_ret
  exact ⟨rfl, rfl⟩
/-- A float's tests, where it is a number or an infinity. -/
theorem fo_sr {x y : Nat} (hx : FK.rg x ≤ 9218868437227405312) (hy : FK.rg y ≤ 9218868437227405312) : fo x y = some (compare (FK.sr x) (FK.sr y)) := FK.order_eq x y hx hy
theorem fo_nan {x : Nat} (h : 9218868437227405312 < FK.rg x) (y : Nat) : fo x y = none := by
  show Ieee.double.order x y = none
  unfold Ieee.Format.order
  rw [FK.read_nan x h]
  cases Ieee.double.read y <;> rfl
theorem fo_nan2 {x : Nat} (h : 9218868437227405312 < FK.rg x) (y : Nat) : fo y x = none := by
  show Ieee.double.order y x = none
  unfold Ieee.Format.order
  rw [FK.read_nan x h]
  cases Ieee.double.read y <;> rfl
theorem nanB_eq (x : Nat) : nanB x = decide (9218868437227405312 < FK.rg x) := by
  unfold nanB
  by_cases h : 9218868437227405312 < FK.rg x
  · rw [fo_nan h]; simp [h]
  · rw [show (fo x x != some .eq) = false from FK.eq_self x (by omega)]; simp [h]
theorem cmp_cases (a b : Int) : (a < b ∧ compare a b = .lt) ∨ (b < a ∧ compare a b = .gt) ∨ (a = b ∧ compare a b = .eq) := by
  by_cases h : a < b
  · exact Or.inl ⟨h, FK.cmp_lt h⟩
  · by_cases h2 : b < a
    · exact Or.inr (Or.inl ⟨h2, FK.cmp_gt h2⟩)
    · exact Or.inr (Or.inr ⟨by omega, FK.cmp_eq (by omega)⟩)
theorem ltB_eq {x y : Nat} (hx : FK.rg x ≤ 9218868437227405312) (hy : FK.rg y ≤ 9218868437227405312) : ltB x y = decide (FK.sr x < FK.sr y) := by
  unfold ltB; rw [fo_sr hx hy]; rcases cmp_cases (FK.sr x) (FK.sr y) with ⟨h, e⟩ | ⟨h, e⟩ | ⟨h, e⟩ <;> rw [e] <;> simp <;> omega
theorem gtB_eq {x y : Nat} (hx : FK.rg x ≤ 9218868437227405312) (hy : FK.rg y ≤ 9218868437227405312) : gtB x y = decide (FK.sr y < FK.sr x) := by
  unfold gtB; rw [fo_sr hx hy]; rcases cmp_cases (FK.sr x) (FK.sr y) with ⟨h, e⟩ | ⟨h, e⟩ | ⟨h, e⟩ <;> rw [e] <;> simp <;> omega
theorem leB_eq {x y : Nat} (hx : FK.rg x ≤ 9218868437227405312) (hy : FK.rg y ≤ 9218868437227405312) : leB x y = decide (FK.sr x ≤ FK.sr y) := by
  unfold leB; rw [fo_sr hx hy]; rcases cmp_cases (FK.sr x) (FK.sr y) with ⟨h, e⟩ | ⟨h, e⟩ | ⟨h, e⟩ <;> rw [e] <;> simp <;> omega
theorem geB_eq {x y : Nat} (hx : FK.rg x ≤ 9218868437227405312) (hy : FK.rg y ≤ 9218868437227405312) : geB x y = decide (FK.sr y ≤ FK.sr x) := by
  unfold geB; rw [fo_sr hx hy]; rcases cmp_cases (FK.sr x) (FK.sr y) with ⟨h, e⟩ | ⟨h, e⟩ | ⟨h, e⟩ <;> rw [e] <;> simp <;> omega
theorem sr_0 : FK.sr 0 = 0 := by decide
theorem sr_1 : FK.sr 4607182418800017408 = 4607182418800017408 := by decide
theorem sr_max : FK.sr 9218868437227405311 = 9218868437227405311 := by decide
theorem rg_0 : FK.rg 0 ≤ 9218868437227405312 := by decide
theorem rg_1 : FK.rg 4607182418800017408 ≤ 9218868437227405312 := by decide
theorem rg_max : FK.rg 9218868437227405311 ≤ 9218868437227405312 := by decide

theorem runit_any (t : Nat) (w : World) : Calls Try.prog 38 #[.float .f64 t] w fun e w' => e = .returned (.float .f64 (unitF t)) ∧ w = w' := by
  unfold unitF
  rw [nanB_eq]
  by_cases h : 9218868437227405312 < FK.rg t
  · rw [show decide (9218868437227405312 < FK.rg t) = true by simp [h]]
    simp only [Bool.true_or, if_true]
    exact runit_3 t w (by unfold geB; rw [fo_nan h]; rfl) (by unfold gtB; rw [fo_nan h]; rfl)
  · rw [show decide (9218868437227405312 < FK.rg t) = false by simp; omega, leB_eq (by omega) rg_0, geB_eq (by omega) rg_1, sr_0, sr_1]
    have e1 : geB t 4607182418800017408 = decide (4607182418800017408 ≤ FK.sr t) := by rw [geB_eq (by omega) rg_1, sr_1]
    have e2 : gtB t 0 = decide (0 < FK.sr t) := by rw [gtB_eq (by omega) rg_0, sr_0]
    by_cases c1 : FK.sr t ≤ 0
    · simp only [c1, decide_true, Bool.or_true, if_true]
      exact runit_3 t w (by rw [e1]; simp; omega) (by rw [e2]; simp; omega)
    · by_cases c2 : 4607182418800017408 ≤ FK.sr t
      · simp only [c1, c2, decide_false, decide_true, Bool.or_false, Bool.false_eq_true, if_false, if_true]
        exact runit_1 t w (by rw [e1]; simp [c2])
      · simp only [c1, c2, decide_false, Bool.or_false, Bool.false_eq_true, if_false]
        exact runit_2 t w (by rw [e1]; simp [c2]) (by rw [e2]; simp; omega)

theorem none_any (x : Nat) (w : World) : Calls Try.prog 36 #[.float .f64 x] w fun e w' => e = .returned (.bool (badF x)) ∧ w = w' := by
  unfold badF
  cases h0 : nanB x
  · cases h1 : ltB x 0
    · have h2 : ∀ z, gtB x z = (fo x z == some .gt) := fun z => rfl
      rw [h2]
      clear h2
      unfold nanB at h0
      unfold ltB at h1
      go_enter Try.func36, Try.ntmps36
      go_wp2_with fail
      refine (isnan_any _ _).mono ?_
      rintro e w' ⟨rfl, rfl⟩
      rw [h0]
      go_wp2_with fail
      refine (isinf_pos _ _).mono ?_
      rintro e w' ⟨rfl, rfl⟩
      go_wp2_with fail
      all_goals (go_ret; exact ⟨ret_bool (by simp), rfl⟩)
    · unfold nanB at h0
      unfold ltB at h1
      go_enter Try.func36, Try.ntmps36
      go_wp2_with fail
      refine (isnan_any _ _).mono ?_
      rintro e w' ⟨rfl, rfl⟩
      rw [h0]
      go_wp2_with fail
      all_goals (go_ret; exact ⟨ret_bool (by simp), rfl⟩)
  · unfold nanB at h0
    go_enter Try.func36, Try.ntmps36
    go_wp2_with fail
    refine (isnan_any _ _).mono ?_
    rintro e w' ⟨rfl, rfl⟩
    rw [h0]
    go_wp2_with fail
    all_goals (go_ret; exact ⟨ret_bool (by simp), rfl⟩)

/-- The numbers on the way to a score. -/
structure ScoreAt (m s u : Nat) (z1 z2 z3 z4 l q : Nat) : Prop where
  mul : Ieee.double.mul 4616189618054758400 s = some z1
  add : Ieee.double.add m z1 = some z2
  div : Ieee.double.div z2 4636737291354636288 = some z3
  one : Ieee.double.add 4607182418800017408 z3 = some z4
  left : Ieee.double.sub 4607182418800017408 u = some l
  quo : Ieee.double.div l z4 = some q
  z4lo : 4607182418800017408 ≤ z4
  z4hi : z4 ≤ 9218868437227405312
  leftIs : l = FK.Left u
  quoIs : q = FK.QI l z4
  hi : q ≤ 4607182418800017408
theorem nw_of {x : Nat} (h : x < 18446744073709551616) (hb : badF x = false) : FK.NW x ∧ FK.rg x < 9218868437227405312 := by
  unfold badF at hb
  rw [nanB_eq] at hb
  by_cases h0 : 9218868437227405312 < FK.rg x
  · simp [h0] at hb
  rw [ltB_eq (by omega) rg_0, gtB_eq (by omega) rg_max, sr_0, sr_max] at hb
  simp at hb
  have e := FK.mkw_self x h
  have hs : FK.sr x = if FK.sg x then -(FK.rg x : Int) else FK.rg x := rfl
  have hr : FK.rg x < 9218868437227405312 ∧ (FK.sg x = true → FK.rg x = 0) := by
    cases hg : FK.sg x <;> rw [hg] at hs <;> simp at hs <;> refine ⟨by omega, fun c => ?_⟩
    · cases c
    · omega
  refine ⟨?_, hr.1⟩
  rw [← e]
  exact FK.NW_of _ (by omega) hr.2
theorem unit_le (a : Nat) (ha : a < 18446744073709551616) : unitF a ≤ 4607182418800017408 := by
  unfold unitF
  rw [nanB_eq]
  by_cases h0 : 9218868437227405312 < FK.rg a
  · rw [show decide (9218868437227405312 < FK.rg a) = true by simp [h0]]; simp
  rw [show decide (9218868437227405312 < FK.rg a) = false by simp; omega, leB_eq (by omega) rg_0, geB_eq (by omega) rg_1, sr_0, sr_1]
  have e := FK.mkw_self a ha
  have hs : FK.sr a = if FK.sg a then -(FK.rg a : Int) else FK.rg a := rfl
  by_cases c1 : FK.sr a ≤ 0
  · simp [c1]
  by_cases c2 : 4607182418800017408 ≤ FK.sr a
  · simp [c1, c2]
  simp only [c1, c2, decide_false, Bool.or_false, Bool.false_eq_true, if_false]
  cases hg : FK.sg a
  · rw [hg] at hs e
    simp at hs
    rw [FK.mkf] at e
    omega
  · rw [hg] at hs
    simp at hs
    omega
theorem score_ex {m s u : Nat} (hm : FK.NW m) (hm2 : FK.rg m < 9218868437227405312) (hs : FK.NW s) (hs2 : FK.rg s < 9218868437227405312) (hu : u ≤ 4607182418800017408) : ∃ z1 z2 z3 z4 l q, ScoreAt m s u z1 z2 z3 z4 l q := by
  obtain ⟨z1, h1, n1⟩ := FK.mul4 hs hs2
  obtain ⟨z2, h2, n2⟩ := FK.addN hm hm2 n1
  obtain ⟨z3, h3, n3⟩ := FK.div100 n2
  obtain ⟨z4, h4, l4, u4⟩ := FK.one_add n3
  exact ⟨z1, z2, z3, z4, _, _, h1, h2, h3, h4, FK.one_sub hu, FK.div_QI (FK.Left_le u) l4 u4, l4, u4, rfl, rfl, FK.QI_le (FK.Left_le u) l4⟩

theorem score_bad1 (m s a : Nat) (h : badF m = true) (w : World) :
    Calls Try.prog 19 #[.float .f64 m, .float .f64 s, .float .f64 a] w fun e w' => e = .returned (.float .f64 0) ∧ w = w' := by
  go_enter Try.func19, Try.ntmps19
  go_wp2_with fail
  refine (none_any _ _).mono ?_
  rintro e w' ⟨rfl, rfl⟩
  rw [h]
  go_wp2_with fail
  go_ret
  exact ⟨rfl, rfl⟩
theorem score_bad2 (m s a : Nat) (h : badF m = false) (h2 : badF s = true) (w : World) :
    Calls Try.prog 19 #[.float .f64 m, .float .f64 s, .float .f64 a] w fun e w' => e = .returned (.float .f64 0) ∧ w = w' := by
  go_enter Try.func19, Try.ntmps19
  go_wp2_with fail
  refine (none_any _ _).mono ?_
  rintro e w' ⟨rfl, rfl⟩
  rw [h]
  go_wp2_with fail
  refine (none_any _ _).mono ?_
  rintro e w' ⟨rfl, rfl⟩
  rw [h2]
  go_wp2_with fail
  go_ret
  exact ⟨rfl, rfl⟩
theorem score_bad3 (m s a : Nat) (h : badF m = false) (h2 : badF s = false) (h3 : nanB a = true) (w : World) :
    Calls Try.prog 19 #[.float .f64 m, .float .f64 s, .float .f64 a] w fun e w' => e = .returned (.float .f64 0) ∧ w = w' := by
  unfold nanB at h3
  go_enter Try.func19, Try.ntmps19
  go_wp2_with fail
  refine (none_any _ _).mono ?_
  rintro e w' ⟨rfl, rfl⟩
  rw [h]
  go_wp2_with fail
  refine (none_any _ _).mono ?_
  rintro e w' ⟨rfl, rfl⟩
  rw [h2]
  go_wp2_with fail
  refine (isnan_any _ _).mono ?_
  rintro e w' ⟨rfl, rfl⟩
  rw [h3]
  go_wp2_with fail
  go_ret
  exact ⟨rfl, rfl⟩
theorem q_zero {q : Nat} (h : q ≤ 4607182418800017408) : (fo q 0 == some .eq) = decide (q = 0) := by
  rw [ord_pos (by omega) (by decide)]
  rcases cmp_cases (q : Int) ((0 : Nat) : Int) with ⟨h, e⟩ | ⟨h, e⟩ | ⟨h, e⟩ <;> rw [e] <;> simp <;> omega
theorem score_ok (m s a : Nat) (z1 z2 z3 z4 l q : Nat) (S : ScoreAt m s (unitF a) z1 z2 z3 z4 l q) (h : badF m = false) (h2 : badF s = false) (h3 : nanB a = false) (w : World) :
    Calls Try.prog 19 #[.float .f64 m, .float .f64 s, .float .f64 a] w fun e w' => e = .returned (.float .f64 q) ∧ w = w' := by
  unfold nanB at h3
  have x1 := fun (W : World) => run_float_arith (P := Try.prog) W .mul 23 .f64 _ _ _ S.mul
  have x2 := fun (W : World) => run_float_arith (P := Try.prog) W .add 23 .f64 _ _ _ S.add
  have x3 := fun (W : World) => run_float_arith (P := Try.prog) W .quo 23 .f64 _ _ _ S.div
  have x4 := fun (W : World) => run_float_arith (P := Try.prog) W .add 23 .f64 _ _ _ S.one
  have x5 := fun (W : World) => run_float_arith (P := Try.prog) W .sub 23 .f64 _ _ _ S.left
  have x6 := fun (W : World) => run_float_arith (P := Try.prog) W .quo 23 .f64 _ _ _ S.quo
  have hq := q_zero S.hi
  have HS := Lib.hid S
  clear S
  by_cases hz : q = 0
  · subst hz
    go_enter Try.func19, Try.ntmps19
    go_wp2_with fail
    refine (none_any _ _).mono ?_
    rintro e w' ⟨rfl, rfl⟩
    rw [h]
    go_wp2_with fail
    refine (none_any _ _).mono ?_
    rintro e w' ⟨rfl, rfl⟩
    rw [h2]
    go_wp2_with fail
    refine (isnan_any _ _).mono ?_
    rintro e w' ⟨rfl, rfl⟩
    rw [h3]
    go_wp2_with fail
    refine (unit_any _ _).mono ?_
    rintro e w' ⟨rfl, rfl⟩
    generalize unitF a = u at *
    go_wp2_with fail
    go_ret
    exact ⟨rfl, rfl⟩
  · have hz2 : (fo q 0 != some .eq) = true := by rw [bne, hq]; simp [hz]
    clear hq
    go_enter Try.func19, Try.ntmps19
    go_wp2_with fail
    refine (none_any _ _).mono ?_
    rintro e w' ⟨rfl, rfl⟩
    rw [h]
    go_wp2_with fail
    refine (none_any _ _).mono ?_
    rintro e w' ⟨rfl, rfl⟩
    rw [h2]
    go_wp2_with fail
    refine (isnan_any _ _).mono ?_
    rintro e w' ⟨rfl, rfl⟩
    rw [h3]
    go_wp2_with fail
    refine (unit_any _ _).mono ?_
    rintro e w' ⟨rfl, rfl⟩
    generalize unitF a = u at *
    go_wp2_with fail
    go_ret
    exact ⟨rfl, rfl⟩
/-- A score. -/
def IsScore (m s a q : Nat) : Prop :=
  (badF m = false ∧ badF s = false ∧ nanB a = false ∧ ∃ z1 z2 z3 z4 l, ScoreAt m s (unitF a) z1 z2 z3 z4 l q) ∨ ((badF m = true ∨ badF s = true ∨ nanB a = true) ∧ q = 0)
theorem isScore_ex (m s a : Nat) (hm : m < 18446744073709551616) (hs : s < 18446744073709551616) (ha : a < 18446744073709551616) : ∃ q, IsScore m s a q := by
  cases h1 : badF m
  · cases h2 : badF s
    · cases h3 : nanB a
      · obtain ⟨n1, r1⟩ := nw_of hm h1
        obtain ⟨n2, r2⟩ := nw_of hs h2
        obtain ⟨z1, z2, z3, z4, l, q, S⟩ := score_ex n1 r1 n2 r2 (unit_le a ha)
        exact ⟨q, Or.inl ⟨h1, h2, h3, z1, z2, z3, z4, l, S⟩⟩
      · exact ⟨0, Or.inr ⟨Or.inr (Or.inr h3), rfl⟩⟩
    · exact ⟨0, Or.inr ⟨Or.inr (Or.inl h2), rfl⟩⟩
  · exact ⟨0, Or.inr ⟨Or.inl h1, rfl⟩⟩
theorem score_any (m s a q : Nat) (h : IsScore m s a q) (w : World) :
    Calls Try.prog 19 #[.float .f64 m, .float .f64 s, .float .f64 a] w fun e w' => e = .returned (.float .f64 q) ∧ w = w' := by
  rcases h with ⟨h1, h2, h3, z1, z2, z3, z4, l, S⟩ | ⟨h, rfl⟩
  · exact score_ok m s a z1 z2 z3 z4 l q S h1 h2 h3 w
  · cases h1 : badF m
    · cases h2 : badF s
      · exact score_bad3 m s a h1 h2 (by simpa [h1, h2] using h) w
      · exact score_bad2 m s a h1 h2 w
    · exact score_bad1 m s a h1 w
end Go.Proofs.Ytoefnagenooaiaa
