/-
  Stats: the few examples are told; the Go text of StatsScore returns true for every input.
-/
import Derived.Test.YtoefnagenooaiaaD
namespace Go.Proofs.Ytoefnagenooaiaa
set_option linter.unusedVariables false
open Go.ChangeShapes Go.WideShapes Go.ChangeAt Go.RowKit
attribute [local go_sem] run_neg_f64 frombits_run bits_run run_store_float


theorem f64_bd {a : Nat} (h : (Lit.float .f64 a).wf = true) : a < 18446744073709551616 := by simpa [Lit.wf] using h
theorem step_at {a b cw d p s : Nat} (h : FK.Step a b cw d p s) : True := trivial
theorem told_step1 : FK.Step 4620693217682128896 4625196817309499392 4620693217682128896 4620693217682128896 4607182418800017408 4621256167635550208 := ⟨by decide +kernel, by decide +kernel, by decide +kernel, by decide, by decide, by decide, by decide, by decide, by decide⟩
theorem told_step2 : FK.Step 0 (FK.rg 4620693217682128896) 4616189618054758400 4620693217682128896 4611686018427387904 4611686018427387904 := ⟨by decide +kernel, by decide +kernel, by decide +kernel, by decide, by decide, by decide, by decide, by decide, by decide⟩
def scoreN (m s a : Nat) : Nat := ((Ieee.double.div ((Ieee.double.sub 4607182418800017408 (unitF a)).getD 0) ((Ieee.double.add 4607182418800017408 ((Ieee.double.div ((Ieee.double.add m ((Ieee.double.mul 4616189618054758400 s).getD 0)).getD 0) 4636737291354636288).getD 0)).getD 0)).getD 0)
theorem isScore_N {m s a q : Nat} (h1 : badF m = false) (h2 : badF s = false) (h3 : nanB a = false) (h : IsScore m s a q) : q = scoreN m s a := by
  rcases h with ⟨_, _, _, z1, z2, z3, z4, l, S⟩ | ⟨h, _⟩
  · unfold scoreN
    rw [S.mul]; simp only [Option.getD_some]
    rw [S.add]; simp only [Option.getD_some]
    rw [S.div]; simp only [Option.getD_some]
    rw [S.one, S.left]; simp only [Option.getD_some]
    rw [S.quo]; rfl
  · simp [h1, h2, h3] at h
theorem told_s1 : IsScore 0 0 0 4607182418800017408 := by
  obtain ⟨q, h⟩ := isScore_ex 0 0 0 (by decide) (by decide) (by decide)
  have := isScore_N (by decide +kernel) (by decide +kernel) (by decide +kernel) h
  rw [show scoreN 0 0 0 = 4607182418800017408 by decide +kernel] at this
  rwa [this] at h
theorem told_s2 : IsScore 4636737291354636288 0 0 4602678819172646912 := by
  obtain ⟨q, h⟩ := isScore_ex 4636737291354636288 0 0 (by decide) (by decide) (by decide)
  have := isScore_N (by decide +kernel) (by decide +kernel) (by decide +kernel) h
  rw [show scoreN 4636737291354636288 0 0 = 4602678819172646912 by decide +kernel] at this
  rwa [this] at h
theorem told_s3 : IsScore 9221120237041090561 0 0 0 := Or.inr ⟨Or.inl (by decide +kernel), rfl⟩
/-- A Line on the way. -/
structure Tr (w0 w : World) (b : Nat) (n : Int) (m s l h : Nat) : Prop where
  line : LineAt w b n m s l h
  bel : Below b w0 w
theorem Tr.below {w0 w w' : World} {b : Nat} {n : Int} {m s l h : Nat} (t : Tr w0 w b n m s l h) (k : Below w.heap.size w w') : Tr w0 w' b n m s l h :=
  ⟨t.line.below k (block_of_cell t.line.c0), t.bel.trans (k.mono (Nat.le_of_lt (block_of_cell t.line.c0)))⟩
theorem Tr.only {w0 w w' : World} {b : Nat} {n n' : Int} {m s l h m' s' l' h' : Nat} (t : Tr w0 w b n m s l h) (a : LineAt w' b n' m' s' l' h') (o : Only b w w') : Tr w0 w' b n' m' s' l' h' :=
  ⟨a, t.bel.trans (o.below (Nat.le_refl _))⟩
theorem told_mid {w w1 : World} {b : Nat} (t : Tr w w1 b (1 + 1) 4621256167635550208 4611686018427387904 (min 4620693217682128896 4625196817309499392) (max 4620693217682128896 4625196817309499392)) : Tr w w1 b 2 4621256167635550208 4611686018427387904 4620693217682128896 4625196817309499392 := t
set_option maxHeartbeats 4000000 in
theorem told_law (w : World) : Calls Try.prog 8 #[] w fun e w' => e = .returned (.bool true) ∧ Below w.heap.size w w' := by
  have q0 : (fo 4621256167635550208 4621256167635550208 == some .eq) = true := by decide +kernel
  have q1 : (fo 4611686018427387904 4611686018427387904 == some .eq) = true := by decide +kernel
  have q2 : (fo 4620693217682128896 4620693217682128896 == some .eq) = true := by decide +kernel
  have q3 : (fo 4625196817309499392 4625196817309499392 == some .eq) = true := by decide +kernel
  have q4 : (fo 4607182418800017408 4607182418800017408 == some .eq) = true := by decide +kernel
  have q5 : (fo 4602678819172646912 4602678819172646912 == some .eq) = true := by decide +kernel
  have q6 : (fo 0 0 == some .eq) = true := by decide +kernel
  have nn := Lib.hid (show (fo 9221120237041090561 9221120237041090561 != some .eq) = true by decide +kernel)
  go_enter Try.func8, Try.ntmps8
  go_wp2_with fail
  refine (new_any _).mono ?_
  rintro e w1 ⟨rfl, hL, hB, hz⟩
  obtain ⟨b, hb⟩ : ∃ b, w.heap.size = b := ⟨_, rfl⟩
  rw [hb] at hL hB hz ⊢
  have T := Lib.hid (show Tr w w1 b 0 0 0 0 0 from ⟨hL, hB⟩)
  have HBB := Lib.hid hb
  clear hL hB hz hb
  go_wp2_with fail
  refine (mean_0 b _ _ _ _ _ T.out.line).mono ?_
  rintro e w' ⟨rfl, hb⟩
  have T' := Lib.hid (T.out.below hb)
  clear T
  have T := T'
  clear T'
  clear hb
  go_wp2_with fail
  refine (isnan_any _ _).mono ?_
  rintro e w' ⟨rfl, rfl⟩
  rw [nn.out]
  go_wp2_with fail
  refine (add_first b _ _ _ _ 4620693217682128896 4620693217682128896 (by decide) _ T.out.line (by decide) (by decide +kernel) (by decide +kernel) (by decide +kernel)).mono ?_
  rintro e w' ⟨rfl, hL, hO⟩
  have T' := Lib.hid (T.out.only hL hO)
  clear T
  have T := T'
  clear T'
  clear hL hO
  go_wp2_with fail
  refine (add_more b 1 _ _ _ _ 4625196817309499392 (by decide) _ _ _ _ _ _ told_step1 told_step2 (by decide) (by decide) (by decide) (by decide) _ T.out.line (by decide) (by decide +kernel) (by decide +kernel) (by decide +kernel)).mono ?_
  rintro e w' ⟨rfl, hL, hO⟩
  have T' := Lib.hid (told_mid (T.out.only hL hO))
  clear T
  have T := T'
  clear T'
  clear hL hO
  go_wp2_with fail
  refine (nan_val _).mono ?_
  rintro e w' ⟨rfl, rfl⟩
  go_wp2_with fail
  refine (add_bad1 b _ (by decide) nn.out _).mono ?_
  rintro e w' ⟨rfl, rfl⟩
  go_wp2_with fail
  refine (count_any b _ _ _ _ _ _ T.out.line).mono ?_
  rintro e w' ⟨rfl, rfl⟩
  go_wp2_with fail
  refine (mean_any b _ _ _ _ _ (by decide) _ T.out.line).mono ?_
  rintro e w' ⟨rfl, hb⟩
  have T' := Lib.hid (T.out.below hb)
  clear T
  have T := T'
  clear T'
  clear hb
  go_wp2_with fail
  refine (spread_any b _ _ _ _ _ (by decide) _ T.out.line).mono ?_
  rintro e w' ⟨rfl, hb⟩
  have T' := Lib.hid (T.out.below hb)
  clear T
  have T := T'
  clear T'
  clear hb
  go_wp2_with fail
  refine (least_any b _ _ _ _ _ (by decide) _ T.out.line).mono ?_
  rintro e w' ⟨rfl, hb⟩
  have T' := Lib.hid (T.out.below hb)
  clear T
  have T := T'
  clear T'
  clear hb
  go_wp2_with fail
  refine (most_any b _ _ _ _ _ (by decide) _ T.out.line).mono ?_
  rintro e w' ⟨rfl, hb⟩
  have T' := Lib.hid (T.out.below hb)
  clear T
  have T := T'
  clear T'
  clear hb
  go_wp2_with fail
  refine (score_any _ _ _ _ told_s1 _).mono ?_
  rintro e w' ⟨rfl, rfl⟩
  go_wp2_with fail
  refine (score_any _ _ _ _ told_s2 _).mono ?_
  rintro e w' ⟨rfl, rfl⟩
  go_wp2_with fail
  refine (nan_val _).mono ?_
  rintro e w' ⟨rfl, rfl⟩
  go_wp2_with fail
  refine (score_any _ _ _ _ told_s3 _).mono ?_
  rintro e w' ⟨rfl, rfl⟩
  go_wp2_with fail
  refine (mean_nil _).mono ?_
  rintro e w' ⟨rfl, hb⟩
  have T' := Lib.hid (T.out.below hb)
  clear T
  have T := T'
  clear T'
  clear hb
  go_wp2_with fail
  refine (isnan_any _ _).mono ?_
  rintro e w' ⟨rfl, rfl⟩
  rw [nn.out]
  go_wp2_with fail
  refine (add_nil _ _).mono ?_
  rintro e w' ⟨rfl, rfl⟩
  go_wp2_with fail
  refine (count_nil _).mono ?_
  rintro e w' ⟨rfl, rfl⟩
  go_wp2_with fail
  go_ret
  exact ⟨rfl, by rw [HBB.out]; exact T.out.bel⟩
end Go.Proofs.Ytoefnagenooaiaa
