/-
  Stats: the Go text of StatsKnown returns true for every input.
-/
import Derived.Test.YtoefnagenooaiaaG
namespace Go.Proofs.Ytoefnagenooaiaa
set_option linter.unusedVariables false
open Go.ChangeShapes Go.WideShapes Go.ChangeAt Go.RowKit
attribute [local go_sem] run_neg_f64 frombits_run bits_run run_store_float

set_option maxHeartbeats 2000000 in
theorem known_n (a0 a1 : Int) (x y d p m' r s' : Nat) (hx : x < 9218868437227405312) (hy : y < 9218868437227405312) (hm : m' < 9218868437227405312) (hs : s' < 9218868437227405312) (h1 : FK.Step x y 4620693217682128896 d p m') (h2 : FK.Step 0 (FK.rg d) 4616189618054758400 r s' s') (hdx : FloatKind.f64.format.div (floatOfInt .f64 (IntKind.u64.wrap a0 % 8000)) 4620693217682128896 = some x) (hdy : FloatKind.f64.format.div (floatOfInt .f64 (IntKind.u64.wrap a1 % 8000)) 4620693217682128896 = some y) (hlt : (fo d 0 == some .lt) = true) (hneg : Op.negFloat .f64 d = r) (w : World) :
    Calls Try.prog 5 #[.int .i64 a0, .int .i64 a1] w fun e w' => e = .returned (.bool true) ∧ Below w.heap.size w w' := by
  have hu := u64_rng a0
  have hu2 := u64_rng a1
  have e1 : (IntKind.u64.wrap a0).tmod 8000 = IntKind.u64.wrap a0 % 8000 := Int.tmod_eq_emod_of_nonneg hu.1
  have e2 : (IntKind.u64.wrap a1).tmod 8000 = IntKind.u64.wrap a1 % 8000 := Int.tmod_eq_emod_of_nonneg hu2.1
  have v1 := fun (W : World) => run_float_arith (P := Try.prog) W .quo 23 .f64 _ _ _ hdx
  have v2 := fun (W : World) => run_float_arith (P := Try.prog) W .quo 23 .f64 _ _ _ hdy
  have v3 := fun (W : World) => run_float_arith (P := Try.prog) W .sub 23 .f64 _ _ _ h1.sub
  have v4 := fun (W : World) => run_float_arith (P := Try.prog) W .quo 23 .f64 _ _ _ h1.div
  have v5 := fun (W : World) => run_float_arith (P := Try.prog) W .add 23 .f64 _ _ _ h1.add
  have v6 := fun (W : World) => run_float_arith (P := Try.prog) W .quo 23 .f64 _ _ _ h2.div
  have v7 := fun ts t (W : World) => run_min_f (P := Try.prog) (x := x) (y := y) (by omega) (by omega) ts t W
  have v8 := fun ts t (W : World) => run_max_f (P := Try.prog) (x := x) (y := y) (by omega) (by omega) ts t W
  have q1 := (pos_tests hm).2.2.2.2
  have q2 := (pos_tests hs).2.2.2.2
  have q3 : (fo (min x y) (min x y) == some .eq) = true := (pos_tests (by omega)).2.2.2.2
  have q4 : (fo (max x y) (max x y) == some .eq) = true := (pos_tests (by omega)).2.2.2.2
  have HX := Lib.hid hx
  have HY := Lib.hid hy
  have H1 := Lib.hid h1
  have H2 := Lib.hid h2
  have PX := Lib.hid (pos_tests hx)
  have PY := Lib.hid (pos_tests hy)
  
  clear hdx hdy hu hu2 h1 h2 hx hy hm hs
  go_enter Try.func5, Try.ntmps5
  go_wp2_with fail
  refine (new_any _).mono ?_
  rintro e w1 ⟨rfl, hL, hB, hz⟩
  obtain ⟨b, hb⟩ : ∃ b, w.heap.size = b := ⟨_, rfl⟩
  rw [hb] at hL hB hz ⊢
  have T := Lib.hid (show Tr w w1 b 0 0 0 0 0 from ⟨hL, hB⟩)
  have HBB := Lib.hid hb
  clear hL hB hz hb
  go_wp2_with fail
  refine (add_first b _ _ _ _ x x (by have := HX.out; omega) _ T.out.line PX.out.1 PX.out.2.1 PX.out.2.2.1 PX.out.2.2.2.1).mono ?_
  rintro e w2 ⟨rfl, hL, hO⟩
  have T1 := Lib.hid (T.out.only hL hO)
  clear hL hO T
  go_wp2_with fail
  refine (add_more b 1 x 0 x x y HY.out d p m' r s' s' H1.out H2.out HX.out HX.out (by omega) (by omega) _ T1.out.line PY.out.1 PY.out.2.1 PY.out.2.2.1 PY.out.2.2.2.1).mono ?_
  rintro e w3 ⟨rfl, hL, hO⟩
  have T := Lib.hid (show Tr w w3 b 2 m' s' (min x y) (max x y) from T1.out.only hL hO)
  clear hL hO T1
  go_wp2_with fail
  refine (told_law _).mono ?_
  rintro e w' ⟨rfl, hb⟩
  have T1 := Lib.hid (T.out.below hb)
  clear hb T
  have T := T1
  clear T1
  go_wp2_with fail
  refine (mean_any b _ _ _ _ _ (by decide) _ T.out.line).mono ?_
  rintro e w' ⟨rfl, hb⟩
  have T1 := Lib.hid (T.out.below hb)
  clear hb T
  have T := T1
  clear T1
  go_wp2_with fail
  refine (spread_any b _ _ _ _ _ (by decide) _ T.out.line).mono ?_
  rintro e w' ⟨rfl, hb⟩
  have T1 := Lib.hid (T.out.below hb)
  clear hb T
  have T := T1
  clear T1
  go_wp2_with fail
  refine (count_any b _ _ _ _ _ _ T.out.line).mono ?_
  rintro e w' ⟨rfl, rfl⟩
  go_wp2_with fail
  refine (least_any b _ _ _ _ _ (by decide) _ T.out.line).mono ?_
  rintro e w' ⟨rfl, hb⟩
  have T1 := Lib.hid (T.out.below hb)
  clear hb T
  have T := T1
  clear T1
  go_wp2_with fail
  refine (most_any b _ _ _ _ _ (by decide) _ T.out.line).mono ?_
  rintro e w' ⟨rfl, hb⟩
  have T1 := Lib.hid (T.out.below hb)
  clear hb T
  have T := T1
  clear T1
  go_wp2_with fail
  go_ret
  exact ⟨rfl, by rw [HBB.out]; exact T.out.bel⟩
set_option maxHeartbeats 2000000 in
theorem known_p (a0 a1 : Int) (x y d p m' r s' : Nat) (hx : x < 9218868437227405312) (hy : y < 9218868437227405312) (hm : m' < 9218868437227405312) (hs : s' < 9218868437227405312) (h1 : FK.Step x y 4620693217682128896 d p m') (h2 : FK.Step 0 (FK.rg d) 4616189618054758400 r s' s') (hdx : FloatKind.f64.format.div (floatOfInt .f64 (IntKind.u64.wrap a0 % 8000)) 4620693217682128896 = some x) (hdy : FloatKind.f64.format.div (floatOfInt .f64 (IntKind.u64.wrap a1 % 8000)) 4620693217682128896 = some y) (hlt : (fo d 0 == some .lt) = false) (hneg : d = r) (w : World) :
    Calls Try.prog 5 #[.int .i64 a0, .int .i64 a1] w fun e w' => e = .returned (.bool true) ∧ Below w.heap.size w w' := by
  have hu := u64_rng a0
  have hu2 := u64_rng a1
  have e1 : (IntKind.u64.wrap a0).tmod 8000 = IntKind.u64.wrap a0 % 8000 := Int.tmod_eq_emod_of_nonneg hu.1
  have e2 : (IntKind.u64.wrap a1).tmod 8000 = IntKind.u64.wrap a1 % 8000 := Int.tmod_eq_emod_of_nonneg hu2.1
  have v1 := fun (W : World) => run_float_arith (P := Try.prog) W .quo 23 .f64 _ _ _ hdx
  have v2 := fun (W : World) => run_float_arith (P := Try.prog) W .quo 23 .f64 _ _ _ hdy
  have v3 := fun (W : World) => run_float_arith (P := Try.prog) W .sub 23 .f64 _ _ _ h1.sub
  have v4 := fun (W : World) => run_float_arith (P := Try.prog) W .quo 23 .f64 _ _ _ h1.div
  have v5 := fun (W : World) => run_float_arith (P := Try.prog) W .add 23 .f64 _ _ _ h1.add
  have v6 := fun (W : World) => run_float_arith (P := Try.prog) W .quo 23 .f64 _ _ _ h2.div
  have v7 := fun ts t (W : World) => run_min_f (P := Try.prog) (x := x) (y := y) (by omega) (by omega) ts t W
  have v8 := fun ts t (W : World) => run_max_f (P := Try.prog) (x := x) (y := y) (by omega) (by omega) ts t W
  have q1 := (pos_tests hm).2.2.2.2
  have q2 := (pos_tests hs).2.2.2.2
  have q3 : (fo (min x y) (min x y) == some .eq) = true := (pos_tests (by omega)).2.2.2.2
  have q4 : (fo (max x y) (max x y) == some .eq) = true := (pos_tests (by omega)).2.2.2.2
  have HX := Lib.hid hx
  have HY := Lib.hid hy
  have H1 := Lib.hid h1
  have H2 := Lib.hid h2
  have PX := Lib.hid (pos_tests hx)
  have PY := Lib.hid (pos_tests hy)
  subst hneg
  clear hdx hdy hu hu2 h1 h2 hx hy hm hs
  go_enter Try.func5, Try.ntmps5
  go_wp2_with fail
  refine (new_any _).mono ?_
  rintro e w1 ⟨rfl, hL, hB, hz⟩
  obtain ⟨b, hb⟩ : ∃ b, w.heap.size = b := ⟨_, rfl⟩
  rw [hb] at hL hB hz ⊢
  have T := Lib.hid (show Tr w w1 b 0 0 0 0 0 from ⟨hL, hB⟩)
  have HBB := Lib.hid hb
  clear hL hB hz hb
  go_wp2_with fail
  refine (add_first b _ _ _ _ x x (by have := HX.out; omega) _ T.out.line PX.out.1 PX.out.2.1 PX.out.2.2.1 PX.out.2.2.2.1).mono ?_
  rintro e w2 ⟨rfl, hL, hO⟩
  have T1 := Lib.hid (T.out.only hL hO)
  clear hL hO T
  go_wp2_with fail
  refine (add_more b 1 x 0 x x y HY.out d p m' _ s' s' H1.out H2.out HX.out HX.out (by omega) (by omega) _ T1.out.line PY.out.1 PY.out.2.1 PY.out.2.2.1 PY.out.2.2.2.1).mono ?_
  rintro e w3 ⟨rfl, hL, hO⟩
  have T := Lib.hid (show Tr w w3 b 2 m' s' (min x y) (max x y) from T1.out.only hL hO)
  clear hL hO T1
  go_wp2_with fail
  refine (told_law _).mono ?_
  rintro e w' ⟨rfl, hb⟩
  have T1 := Lib.hid (T.out.below hb)
  clear hb T
  have T := T1
  clear T1
  go_wp2_with fail
  refine (mean_any b _ _ _ _ _ (by decide) _ T.out.line).mono ?_
  rintro e w' ⟨rfl, hb⟩
  have T1 := Lib.hid (T.out.below hb)
  clear hb T
  have T := T1
  clear T1
  go_wp2_with fail
  refine (spread_any b _ _ _ _ _ (by decide) _ T.out.line).mono ?_
  rintro e w' ⟨rfl, hb⟩
  have T1 := Lib.hid (T.out.below hb)
  clear hb T
  have T := T1
  clear T1
  go_wp2_with fail
  refine (count_any b _ _ _ _ _ _ T.out.line).mono ?_
  rintro e w' ⟨rfl, rfl⟩
  go_wp2_with fail
  refine (least_any b _ _ _ _ _ (by decide) _ T.out.line).mono ?_
  rintro e w' ⟨rfl, hb⟩
  have T1 := Lib.hid (T.out.below hb)
  clear hb T
  have T := T1
  clear T1
  go_wp2_with fail
  refine (most_any b _ _ _ _ _ (by decide) _ T.out.line).mono ?_
  rintro e w' ⟨rfl, hb⟩
  have T1 := Lib.hid (T.out.below hb)
  clear hb T
  have T := T1
  clear T1
  go_wp2_with fail
  go_ret
  exact ⟨rfl, by rw [HBB.out]; exact T.out.bel⟩

theorem sub_null {r : Nat} (h : r < 9218868437227405312) : FloatKind.f64.format.sub r 0 = some r := by
  have w := FK.w_pos h
  have e := FK.sub_fin r 0 (by rw [w.1]; exact h) (by decide)
  have v0 : FK.V 0 = 0 := by decide
  rw [FK.V_pos h, v0, w.2, Int.sub_zero, show ((FK.M r : Int)).natAbs = FK.M r by omega, FK.R_M r h, show decide ((FK.M r : Int) < 0) = false by simp] at e
  rw [show FloatKind.f64.format.sub r 0 = Ieee.double.sub r 0 from rfl, e]
  split
  · rfl
  · rfl
theorem add_null {r : Nat} (h : r < 9218868437227405312) : FloatKind.f64.format.add 0 r = some r := by
  have w := FK.w_pos h
  have e := FK.add_fin 0 r (by decide) (by rw [w.1]; exact h)
  have v0 : FK.V 0 = 0 := by decide
  rw [FK.V_pos h, v0, w.2, Int.zero_add, show ((FK.M r : Int)).natAbs = FK.M r by omega, FK.R_M r h, show decide ((FK.M r : Int) < 0) = false by simp] at e
  rw [show FloatKind.f64.format.add 0 r = Ieee.double.add 0 r from rfl, e]
  split
  · rw [Bool.and_false]; rfl
  · rfl
theorem step_from0 {r : Nat} (h : r < 9218868437227405312) : ∃ s, s < 9218868437227405312 ∧ FK.Step 0 r 4616189618054758400 r s s := by
  obtain ⟨d, p, s, t⟩ := FK.step4 (a := 0) (b := r) (by decide) h
  have hd : d = r := by
    have e := t.sub
    rw [show Ieee.double.sub r 0 = FloatKind.f64.format.sub r 0 from rfl, sub_null h] at e
    injection e with e; exact e.symm
  subst hd
  have hp : p < 9218868437227405312 := by
    have e := t.div
    rw [FK.div_pow d _ (by rw [(FK.w_pos h).1]; exact h) (by decide) (by decide), (FK.w_pos h).2, (FK.w_pos h).1] at e
    have s0 : FK.sg 4616189618054758400 = false := by decide
    have s1 : FK.pl (FK.rg 4616189618054758400) = (2 : Int) - 52 := by decide
    rw [s0, s1, FK.mk_xff] at e
    injection e with e
    have := FK.DV_le (c := 2) h
    unfold FK.DV at this
    rw [show FK.pl d - ((2 : Int) - 52) - 52 = FK.pl d - ((2 : Nat) : Int) by omega] at e
    omega
  have hs : s = p := by
    have e := t.add
    rw [show Ieee.double.add 0 p = FloatKind.f64.format.add 0 p from rfl, add_null hp] at e
    injection e with e; exact e.symm
  subst hs
  exact ⟨s, t.fin, t⟩
theorem step_neg {a b cw d p s : Nat} (ha : a < 9218868437227405312) (hb : b < 9218868437227405312) (h : FK.Step a b cw d p s) (hlt : b < a) : 0 < FK.rg d := by
  have hM : FK.M b < FK.M a := by
    have := FK.M_mono_iff ha hb
    have : ¬ FK.M a ≤ FK.M b := fun hh => by have := this.1 hh; omega
    omega
  have e := h.sub
  rw [FK.sub_fin b a (by rw [(FK.w_pos hb).1]; exact hb) (by rw [(FK.w_pos ha).1]; exact ha), FK.V_pos ha, FK.V_pos hb] at e
  injection e with e
  rw [← e, FK.rg_mkw _ _ (by have := FK.rung_le_inf ((FK.M b : Int) - FK.M a).natAbs (-1074); unfold FK.R; omega)]
  have : FK.R 1 ≤ FK.R ((FK.M b : Int) - FK.M a).natAbs := FK.R_mono (by omega)
  have e1 : FK.R 1 = 1 := by decide
  omega
theorem law_StatsKnown (a0 a1 : Int) (w0 : (Lit.int .i64 a0).wf = true) (w1 : (Lit.int .i64 a1).wf = true) (w : World) :
    Calls Try.prog 5 #[.int .i64 a0, .int .i64 a1] w fun e w' => e = .returned (.bool true) ∧ Below w.heap.size w w' := by
  have hu := u64_rng a0
  have hu2 := u64_rng a1
  obtain ⟨x, hx, -, hdx⟩ := eighths (IntKind.u64.wrap a0 % 8000) (by omega) (by omega)
  obtain ⟨y, hy, -, hdy⟩ := eighths (IntKind.u64.wrap a1 % 8000) (by omega) (by omega)
  obtain ⟨d, p, m', h1⟩ := FK.step8 hx hy
  obtain ⟨s', hs, h2⟩ := step_from0 h1.dfin
  by_cases hlt : y < x
  · have h0 := step_neg hx hy h1 hlt
    have hv := h1.dval
    rw [show decide (y < x) = true by simp [hlt]] at hv
    refine known_n a0 a1 x y d p m' (FK.rg d) s' hx hy h1.fin hs h1 h2 hdx hdy ?_ ?_ w
    · have e := ltB_eq (x := d) (y := 0) (by have := h1.dfin; omega) rg_0
      unfold ltB at e
      rw [e, sr_0]
      have : FK.sr d = -(FK.rg d : Int) := by
        rw [hv]; unfold FK.sr
        rw [FK.sg_mkw _ _ (by have := h1.dfin; omega), FK.rg_mkw _ _ (by have := h1.dfin; omega), if_pos rfl]
      rw [this]; simp; omega
    · have e : Op.negFloat .f64 d = FK.mkw (FK.sg (Op.negFloat .f64 d)) (FK.rg (Op.negFloat .f64 d)) := by
        refine (FK.mkw_self _ ?_).symm
        have e : Op.negFloat .f64 d = d ^^^ 2 ^ 63 := rfl
        rw [e]
        exact Nat.xor_lt_two_pow (n := 64) h1.dlt (by decide)
      rw [FK.rg_neg, FK.sg_neg] at e
      rw [e]
      have hg : FK.sg d = true := by rw [hv]; exact FK.sg_mkw _ _ (by have := h1.dfin; omega)
      rw [hg]; rfl
  · have hv := h1.dval
    rw [show decide (y < x) = false by simp; omega, FK.mkf] at hv
    refine known_p a0 a1 x y d p m' (FK.rg d) s' hx hy h1.fin hs h1 h2 hdx hdy ?_ hv w
    have hd := h1.dfin
    rw [← hv] at hd
    exact (pos_tests hd).2.2.2.1
end Go.Proofs.Ytoefnagenooaiaa
