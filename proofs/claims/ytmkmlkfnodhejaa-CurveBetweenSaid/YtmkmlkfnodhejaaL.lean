/-
  Curve: the Go text of CurveBetween returns true for every input.
-/
import Derived.Test.YtmkmlkfnodhejaaJ
import Derived.Test.YtmkmlkfnodhejaaK15
namespace Go.Proofs.Ytmkmlkfnodhejaa
set_option linter.unusedVariables false
open Go.ChangeShapes Go.WideShapes Go.ChangeAt Go.RowKit
attribute [local go_sem] run_neg_f64 frombits_run bits_run

theorem run_min_f {P : Program} {x y lo : Nat} (h : (fo x y = some .lt ∧ lo = x) ∨ (fo x y = some .gt ∧ lo = y) ∨ (x = y ∧ fo x y = some .eq ∧ lo = x)) (ts : Array TypeId) (t : TypeId) (w : World) :
    (Builtin.min_ ts t #[.float .f64 x, .float .f64 y]).run P w = .ok (.float .f64 lo) w := by
  rcases h with ⟨h, rfl⟩ | ⟨h, rfl⟩ | ⟨rfl, h, rfl⟩ <;> unfold fo at h <;> simp [Builtin.min_, Builtin.min2, h]
theorem run_max_f {P : Program} {x y hi : Nat} (h : (fo x y = some .lt ∧ hi = y) ∨ (fo x y = some .gt ∧ hi = x) ∨ (x = y ∧ fo x y = some .eq ∧ hi = x)) (ts : Array TypeId) (t : TypeId) (w : World) :
    (Builtin.max_ ts t #[.float .f64 x, .float .f64 y]).run P w = .ok (.float .f64 hi) w := by
  rcases h with ⟨h, rfl⟩ | ⟨h, rfl⟩ | ⟨rfl, h, rfl⟩ <;> unfold fo at h <;> simp [Builtin.max_, Builtin.max2, h]
theorem W8 {a : Int} (h : -8000 ≤ a ∧ a ≤ 8000) : FK.Wr a (-3) := by unfold FK.Wr; omega
theorem fin8 {a : Int} (h : -8000 ≤ a ∧ a ≤ 8000) : FK.rg (FK.D a (-3)) < 9218868437227405312 := FK.fin_D (W8 h)
theorem nn_fin {x : Nat} (h : FK.rg x < 9218868437227405312) : FK.nanB x = false := by unfold FK.nanB; simp; omega
theorem sr8 {a b : Int} (ha : -8000 ≤ a ∧ a ≤ 8000) (hb : -8000 ≤ b ∧ b ≤ 8000) (h : a ≤ b) : FK.sr (FK.D a (-3)) ≤ FK.sr (FK.D b (-3)) := by
  rw [FK.sr_V (fin8 ha), FK.sr_V (fin8 hb), FK.V_D (W8 ha), FK.V_D (W8 hb)]
  exact FK.SRv_mono (Int.mul_le_mul_of_nonneg_right h (Int.le_of_lt (FK.pow_posI _)))
theorem mix8 {a b : Int} (t : Nat) (ht : t < 18446744073709551616) (ha : -8000 ≤ a ∧ a ≤ 8000) (hb : -8000 ≤ b ∧ b ≤ 8000) :
    FK.nanB (mixF (FK.D a (-3)) (FK.D b (-3)) t) = false ∧ ((FK.sr (FK.D a (-3)) ≤ FK.sr (mixF (FK.D a (-3)) (FK.D b (-3)) t) ∧ FK.sr (mixF (FK.D a (-3)) (FK.D b (-3)) t) ≤ FK.sr (FK.D b (-3))) ∨ (FK.sr (FK.D b (-3)) ≤ FK.sr (mixF (FK.D a (-3)) (FK.D b (-3)) t) ∧ FK.sr (mixF (FK.D a (-3)) (FK.D b (-3)) t) ≤ FK.sr (FK.D a (-3)))) := by
  have na := nn_fin (fin8 ha)
  have nb := nn_fin (fin8 hb)
  have cmp : FK.sr (FK.D a (-3)) ≤ FK.sr (FK.D b (-3)) ∨ FK.sr (FK.D b (-3)) ≤ FK.sr (FK.D a (-3)) := Int.le_total _ _
  by_cases hs : FK.sr (FK.D a (-3)) = FK.sr (FK.D b (-3))
  · have hv : mixF (FK.D a (-3)) (FK.D b (-3)) t = FK.D a (-3) ∨ mixF (FK.D a (-3)) (FK.D b (-3)) t = FK.D b (-3) := by
      unfold mixF
      by_cases h0 : FK.unit t = 0
      · rw [if_pos h0]; exact Or.inl rfl
      rw [if_neg h0]
      by_cases h1 : FK.unit t = 4607182418800017408
      · rw [if_pos h1]; exact Or.inr rfl
      rw [if_neg h1, na, nb, if_neg (by simp), if_pos hs]
      exact Or.inl rfl
    rcases hv with hv | hv <;> rw [hv] <;> refine ⟨by assumption, ?_⟩ <;> omega
  · have hne : a ≠ b := fun e => hs (by rw [e])
    have hd := FK.sub_D (n := b) (m := a) (p := -3) (W8 hb) (W8 ha) (by omega)
    have hw : FK.Wr (b - a) (-3) := by unfold FK.Wr; omega
    have hV : FK.V (FK.D a (-3)) + FK.V (FK.D (b - a) (-3)) = FK.V (FK.D b (-3)) := by
      rw [FK.V_D (W8 ha), FK.V_D hw, FK.V_D (W8 hb), ← Int.add_mul]
      congr 1
      omega
    obtain ⟨m, x, hm, hx, nx, hbt⟩ := FK.mix_mid (fin8 ha) (FK.fin_D hw) (fin8 hb) hV (FK.unit_le t ht)
    have hv : mixF (FK.D a (-3)) (FK.D b (-3)) t = FK.D a (-3) ∨ mixF (FK.D a (-3)) (FK.D b (-3)) t = FK.D b (-3) ∨ mixF (FK.D a (-3)) (FK.D b (-3)) t = x := by
      unfold mixF
      by_cases h0 : FK.unit t = 0
      · rw [if_pos h0]; exact Or.inl rfl
      rw [if_neg h0]
      by_cases h1 : FK.unit t = 4607182418800017408
      · rw [if_pos h1]; exact Or.inr (Or.inl rfl)
      rw [if_neg h1, na, nb, if_neg (by simp), if_neg hs, hd]
      simp only
      rw [hm]
      simp only
      rw [hx]
      exact Or.inr (Or.inr rfl)
    rcases hv with hv | hv | hv <;> rw [hv] <;> refine ⟨by assumption, ?_⟩ <;> first | exact hbt | omega
theorem half8 {a b : Int} (ha : -8000 ≤ a ∧ a ≤ 8000) (hb : -8000 ≤ b ∧ b ≤ 8000) :
    mixF (FK.D a (-3)) (FK.D b (-3)) 4602678819172646912 = FK.D (a + b) (-4) ∧ Ieee.double.add (FK.D a (-3)) (FK.D b (-3)) = some (FK.D (a + b) (-3)) ∧ Ieee.double.div (FK.D (a + b) (-3)) 4611686018427387904 = some (FK.D (a + b) (-4)) := by
  have na := nn_fin (fin8 ha)
  have nb := nn_fin (fin8 hb)
  refine ⟨?_, FK.add_D (W8 ha) (W8 hb), FK.div_D (by unfold FK.Wr; omega) 4611686018427387904 1 (by decide) (by decide) (by decide) (by decide)⟩
  unfold mixF
  rw [show FK.unit 4602678819172646912 = 4602678819172646912 from FK.unit_id (by decide), if_neg (by decide), if_neg (by decide), na, nb, if_neg (by simp)]
  by_cases hs : FK.sr (FK.D a (-3)) = FK.sr (FK.D b (-3))
  · rw [if_pos hs]
    have e : a = b := by
      have hv := (FK.sr_lt_V _ _ (fin8 ha) (fin8 hb)).2.1 hs
      rw [FK.V_D (W8 ha), FK.V_D (W8 hb)] at hv
      exact Int.eq_of_mul_eq_mul_right (Int.ne_of_gt (FK.pow_posI _)) hv
    subst e
    have := FK.D_scale a (-3) 1
    rw [← this]
    congr 1
    omega
  · rw [if_neg hs]
    have hne : a ≠ b := fun e => hs (by rw [e])
    rw [FK.sub_D (n := b) (m := a) (p := -3) (W8 hb) (W8 ha) (by omega)]
    simp only
    have eh : 4602678819172646912 = FK.D 1 (-1) := by decide +kernel
    rw [eh, FK.mul_D_pow (by unfold FK.Wr; omega) (by unfold FK.Wr; omega) (by decide)]
    simp only
    have ea : FK.D a (-3) = FK.D (a * 2) (-4) := (FK.D_scale a (-3) 1).symm
    rw [ea, show (-3 : Int) + -1 = -4 from rfl, FK.add_D (by unfold FK.Wr; omega) (by unfold FK.Wr; omega)]
    simp only
    congr 1
    omega
theorem slackC : FK.rg 4562254508917369340 < 9218868437227405312 ∧ 0 ≤ FK.V 4562254508917369340 := by
  refine ⟨by decide, ?_⟩
  rw [FK.V_pos (by decide)]
  exact Int.natCast_nonneg _
theorem lower {lo : Nat} (h : FK.rg lo < 9218868437227405312) {m : Nat} (nm : FK.nanB m = false) (hm : FK.sr lo ≤ FK.sr m) : ∃ l, Ieee.double.sub lo 4562254508917369340 = some l ∧ (fo m l == some .gt || fo m l == some .eq) = true := by
  obtain ⟨z, hz, nz, sz⟩ := FK.sub_sr h slackC.1
  refine ⟨z, hz, ?_⟩
  have := FK.SRv_mono (v := FK.V lo - FK.V 4562254508917369340) (w := FK.V lo) (by have := slackC.2; omega)
  rw [← sz, ← FK.sr_V h] at this
  rw [fo_ge, nm, nz]
  simp; omega
theorem upper {hi : Nat} (h : FK.rg hi < 9218868437227405312) {m : Nat} (nm : FK.nanB m = false) (hm : FK.sr m ≤ FK.sr hi) : ∃ l, Ieee.double.add hi 4562254508917369340 = some l ∧ (fo m l == some .lt || fo m l == some .eq) = true := by
  obtain ⟨z, hz, nz, sz⟩ := FK.add_sr h slackC.1
  refine ⟨z, hz, ?_⟩
  have := FK.SRv_mono (v := FK.V hi) (w := FK.V hi + FK.V 4562254508917369340) (by have := slackC.2; omega)
  rw [← sz, ← FK.sr_V h] at this
  rw [fo_le, nm, nz]
  simp; omega
/-- What the two ends' least and greatest are. -/
theorem ends8 {a b : Int} (ha : -8000 ≤ a ∧ a ≤ 8000) (hb : -8000 ≤ b ∧ b ≤ 8000) : ∃ lo hi, FK.rg lo < 9218868437227405312 ∧ FK.rg hi < 9218868437227405312 ∧
    ((fo (FK.D a (-3)) (FK.D b (-3)) = some .lt ∧ lo = FK.D a (-3)) ∨ (fo (FK.D a (-3)) (FK.D b (-3)) = some .gt ∧ lo = FK.D b (-3)) ∨ (FK.D a (-3) = FK.D b (-3) ∧ fo (FK.D a (-3)) (FK.D b (-3)) = some .eq ∧ lo = FK.D a (-3))) ∧
    ((fo (FK.D a (-3)) (FK.D b (-3)) = some .lt ∧ hi = FK.D b (-3)) ∨ (fo (FK.D a (-3)) (FK.D b (-3)) = some .gt ∧ hi = FK.D a (-3)) ∨ (FK.D a (-3) = FK.D b (-3) ∧ fo (FK.D a (-3)) (FK.D b (-3)) = some .eq ∧ hi = FK.D a (-3))) ∧
    FK.sr lo ≤ FK.sr (FK.D a (-3)) ∧ FK.sr lo ≤ FK.sr (FK.D b (-3)) ∧ FK.sr (FK.D a (-3)) ≤ FK.sr hi ∧ FK.sr (FK.D b (-3)) ≤ FK.sr hi := by
  have hfo : fo (FK.D a (-3)) (FK.D b (-3)) = some (compare a b) := FK.order_D (W8 ha) (W8 hb)
  rcases Int.lt_trichotomy a b with h | h | h
  · have hl := sr8 ha hb (Int.le_of_lt h)
    rw [FK.cmp_lt h] at hfo
    exact ⟨_, _, fin8 ha, fin8 hb, Or.inl ⟨hfo, rfl⟩, Or.inl ⟨hfo, rfl⟩, by omega, hl, hl, by omega⟩
  · subst h
    rw [FK.cmp_eq rfl] at hfo
    exact ⟨_, _, fin8 ha, fin8 ha, Or.inr (Or.inr ⟨rfl, hfo, rfl⟩), Or.inr (Or.inr ⟨rfl, hfo, rfl⟩), by omega, by omega, by omega, by omega⟩
  · have hl := sr8 hb ha (Int.le_of_lt h)
    rw [FK.cmp_gt h] at hfo
    exact ⟨_, _, fin8 hb, fin8 ha, Or.inr (Or.inl ⟨hfo, rfl⟩), Or.inr (Or.inl ⟨hfo, rfl⟩), hl, by omega, by omega, hl⟩
theorem fdiv8k (n : Int) (h : -8000 ≤ n ∧ n ≤ 8000) : FloatKind.f64.format.div (floatOfInt .f64 n) 4620693217682128896 = some (FK.D n (-3)) := by
  have hw : FK.Wr n 0 := by unfold FK.Wr; omega
  rw [FK.ofInt_D]
  exact FK.div_D hw 4620693217682128896 3 (by decide) (by decide) (by decide) (by decide)
set_option maxHeartbeats 1000000 in
theorem law_CurveBetween (a0 a1 : Int) (a2 : Nat) (w : World) (w0 : (Lit.int .i64 a0).wf = true) (w1 : (Lit.int .i64 a1).wf = true) (w2 : (Lit.float .f64 a2).wf = true) :
    Calls Try.prog 9 #[.int .i64 a0, .int .i64 a1, .float .f64 a2] w fun e w' => e = .returned (.bool true) ∧ Below w.heap.size w w' := by
  have HT := Lib.hid (f64_bd w2)
  have hu := u64_rng a0
  have hu1 := u64_rng a1
  obtain ⟨a, ea⟩ : ∃ a, a = IntKind.u64.wrap a0 % 16001 - 8000 := ⟨_, rfl⟩
  obtain ⟨b, eb⟩ : ∃ b, b = IntKind.u64.wrap a1 % 16001 - 8000 := ⟨_, rfl⟩
  have ha : -8000 ≤ a ∧ a ≤ 8000 := by omega
  have hb : -8000 ≤ b ∧ b ≤ 8000 := by omega
  have e1 : wrap64 ((IntKind.u64.wrap a0).tmod 16001) = a + 8000 := by rw [Int.tmod_eq_emod_of_nonneg hu.1]; unfold wrap64; omega
  have e2 : wrap64 a = a := by unfold wrap64; omega
  have e3 : wrap64 ((IntKind.u64.wrap a1).tmod 16001) = b + 8000 := by rw [Int.tmod_eq_emod_of_nonneg hu1.1]; unfold wrap64; omega
  have e4 : wrap64 b = b := by unfold wrap64; omega
  have hd1 := fdiv8k a ha
  have hd2 := fdiv8k b hb
  obtain ⟨lo, hi, fl, fh, hlo, hhi, l1, l2, l3, l4⟩ := ends8 ha hb
  obtain ⟨nm, hm⟩ := mix8 a2 HT.out ha hb
  obtain ⟨m, em⟩ : ∃ m, mixF (FK.D a (-3)) (FK.D b (-3)) a2 = m := ⟨_, rfl⟩
  rw [em] at nm hm
  obtain ⟨lo', s1, c1⟩ := lower fl nm (by omega)
  obtain ⟨hi', s2, c2⟩ := upper fh nm (by omega)
  obtain ⟨p1, p2, p3⟩ := half8 ha hb
  have hw4 : FK.Wr (a + b) (-4) := by unfold FK.Wr; omega
  have nh := nn_fin (FK.fin_D hw4)
  have c3 : (fo (FK.D (a + b) (-4)) (FK.D (a + b) (-4)) == some .eq) = true := by rw [fo_eq, nh]; simp
  have ms := mixF_same (FK.D a (-3)) a2 (nn_fin (fin8 ha))
  have c4 : (fo (FK.D a (-3)) (FK.D a (-3)) == some .eq) = true := by rw [fo_eq, nn_fin (fin8 ha)]; simp
  generalize FK.D (a + b) (-4) = h at *
  generalize FK.D (a + b) (-3) = s at *
  generalize FK.D a (-3) = A at *
  generalize FK.D b (-3) = B at *
  have x1 := fun (W : World) => run_float_arith (P := Try.prog) W .quo 22 .f64 _ _ _ hd1
  have x2 := fun (W : World) => run_float_arith (P := Try.prog) W .quo 22 .f64 _ _ _ hd2
  have x3 := fun (W : World) => run_float_arith (P := Try.prog) W .sub 22 .f64 _ _ _ s1
  have x4 := fun (W : World) => run_float_arith (P := Try.prog) W .add 22 .f64 _ _ _ s2
  have x5 := fun (W : World) => run_float_arith (P := Try.prog) W .add 22 .f64 _ _ _ p2
  have x6 := fun (W : World) => run_float_arith (P := Try.prog) W .quo 22 .f64 _ _ _ p3
  have y1 := run_min_f (P := Try.prog) hlo
  have y2 := run_max_f (P := Try.prog) hhi
  have EM := Lib.hid em
  have PH := Lib.hid p1
  have MS := Lib.hid ms
  clear w0 w1 w2 hu hu1 ea eb ha hb hd1 hd2 fl fh hlo hhi l1 l2 l3 l4 nm hm em s1 s2 p1 p2 p3 hw4 nh ms
  go_enter Try.func9, Try.ntmps9
  go_wp2_with fail
  refine (mix_any _ _ _ HT.out _).mono ?_
  rintro e w1 ⟨rfl, hB1⟩
  rw [EM.out]
  go_wp2_with fail
  refine (told_law _).mono ?_
  rintro e w2 ⟨rfl, hB2⟩
  go_wp2_with fail
  refine (mix_any _ _ _ (by decide) _).mono ?_
  rintro e w3 ⟨rfl, hB3⟩
  rw [PH.out]
  go_wp2_with fail
  refine (mix_any _ _ _ HT.out _).mono ?_
  rintro e w4 ⟨rfl, hB4⟩
  rw [MS.out]
  go_wp2_with fail
  go_ret
  have b2 := hB1.trans (hB2.mono hB1.size)
  have b3 := b2.trans (hB3.mono b2.size)
  exact ⟨rfl, b3.trans (hB4.mono b3.size)⟩
end Go.Proofs.Ytmkmlkfnodhejaa
