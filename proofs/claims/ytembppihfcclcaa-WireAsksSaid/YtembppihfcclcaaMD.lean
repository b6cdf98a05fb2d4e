/-
  Wire: May.
-/
import Derived.Test.YtembppihfcclcaaMC
import Derived.Lib.MinMax
namespace Go.Proofs.Ytembppihfcclcaa
set_option linter.unusedVariables false
open Go.ChangeShapes Go.WideShapes Go.ChangeAt Go.RowKit

set_option linter.unusedSimpArgs false
def mayM (M : Msg) : Bool :=
  decide (0 ≤ partsN (M.F 0)) && (decide (0 ≤ M.F 1) && (decide (M.F 1 < 12) && (inB (hasB (M.F 0) 0) (M.F 5) 0 7 && (inB (hasB (M.F 0) 1) (M.F 6) 1 60000 && (inB (hasB (M.F 0) 2) (M.F 7) 0 1048576 && (inB (hasB (M.F 0) 3) (M.F 8) 0 9 &&
    (inB (hasB (M.F 0) 4) (M.F 9) 0 65535 && (inB (hasB (M.F 0) 5) (M.F 10) (M.F 9 + 1) 65535 && ((hasB (M.F 0) 6 || M.F 11 == 0) && ((hasB (M.F 0) 7 || M.F 12 == 0) && (inB (hasB (M.F 0) 8) M.ni 1 16 && (inB (hasB (M.F 0) 9) M.nl 1 16 && (inB (hasB (M.F 0) 10) M.d.length 1 64 &&
    (logOk (M.F 7) M.D M.nl && inpAll M.I M.ni))))))))))))))
theorem inB_bd {has : Bool} {n lo hi : Int} (h : inB has n lo hi = true) (h1 : 0 ≤ hi) (h2 : 0 ≤ lo) : 0 ≤ n ∧ n ≤ hi := by
  unfold inB at h
  cases has
  · have : n = 0 := by simpa using h
    omega
  · simp at h
    omega
theorem inps_form {w : World} {a : Option Addr} {n cap : Nat} {I : Nat → Int} (h : InpsV w (.slice a n cap) n I) : 0 < n → ∃ b o, a = some ⟨b, o, none⟩ ∧ b < w.heap.size ∧ InpsAt w b o n I := by
  obtain ⟨a', cap', e, -, -, h3⟩ := h
  injection e with e1 e2 e3
  subst e1
  exact h3
set_option maxHeartbeats 4000000 in
theorem mayM_any (M : Msg) (iv lv dv : Value) (w : World) (hr : RowsV w iv lv dv M) :
    Calls Try.prog 11 #[.agg (msgL M.F iv lv dv).toArray] w fun e w' => e = .returned (.bool (mayM M)) ∧ Below w.heap.size w w' := by
  have HNo : Hid (∀ b, mayM M = b → mayM M = b) := Lib.hid (fun _ h => h)
  obtain ⟨r, hr0⟩ : ∃ r, mayM M = r := ⟨_, rfl⟩
  rw [hr0]
  have HR0 := Lib.hid hr0
  clear hr0 HNo
  unfold mayM at HR0
  obtain ⟨F, ni, I, nl, D, d⟩ := M
  simp only at HR0 hr ⊢
  have hA := msgAt_new F iv lv dv 30 w
  have hB := (Below.refl w.heap.size w).alloc (Nat.le_refl _) (Obj.cells (msgL F iv lv dv).toArray 30)
  have HRows := Lib.hid (hr.below hB (Nat.le_refl _))
  obtain ⟨⟨a1, cap1, rfl, hn1, hm1, -⟩, ⟨a2, cap2, rfl, hn2, hm2, -⟩, ⟨a3, cap3, rfl, hn3, hm3, -⟩⟩ := hr
  simp only at hn1 hn2 hn3 HR0 HRows ⊢
  have HM1 := Lib.hid hm1
  unfold maxLen at hm1 hm2 hm3
  have c0 := hA.c0
  have c1 := hA.c1
  have c5 := hA.c5
  have c6 := hA.c6
  have c7 := hA.c7
  have c8 := hA.c8
  have c9 := hA.c9
  have c10 := hA.c10
  have HA := Lib.hid hA
  have HB := Lib.hid hB
  clear hA hB
  go_enter Try.func11, Try.ntmps11
  go_wp2_with fail
  generalize w.alloc (Obj.cells (msgL F (.slice a1 ni cap1) (.slice a2 nl cap2) (.slice a3 d.length cap3)).toArray 30) = w1 at *
  refine (parts_any (F 0) _).mono ?_
  rintro e w2 ⟨rfl, rfl⟩
  by_cases hp : partsN (F 0) < 0
  · have hq : r = false := by rw [← HR0.out, decide_eq_false (show ¬ 0 ≤ partsN (F 0) by omega), Bool.false_and]
    subst hq
    clear HR0
    go_wp2_with fail
    go_ret
    exact ⟨rfl, HB.out⟩
  by_cases hf1 : F 1 < 0
  · have hq : r = false := by rw [← HR0.out, decide_eq_false (show ¬ 0 ≤ F 1 by omega), Bool.false_and, Bool.and_false]
    subst hq
    clear HR0
    go_wp2_with fail
    go_ret
    exact ⟨rfl, HB.out⟩
  by_cases hf2 : 12 ≤ F 1
  · have hq : r = false := by rw [← HR0.out, decide_eq_false (show ¬ F 1 < 12 by omega), Bool.false_and, Bool.and_false, Bool.and_false]
    subst hq
    clear HR0
    go_wp2_with fail
    go_ret
    exact ⟨rfl, HB.out⟩
  have HP : Hid (0 ≤ partsN (F 0)) := Lib.hid (by omega)
  have A0 : Hid ((bits .and .i64 (partsN (F 0)) 1 == 0) = !hasB (F 0) 0) := Lib.hid (has_and (F 0) HP.out 0)
  have A1 : Hid ((bits .and .i64 (partsN (F 0)) 2 == 0) = !hasB (F 0) 1) := Lib.hid (has_and (F 0) HP.out 1)
  have A2 : Hid ((bits .and .i64 (partsN (F 0)) 4 == 0) = !hasB (F 0) 2) := Lib.hid (has_and (F 0) HP.out 2)
  have A3 : Hid ((bits .and .i64 (partsN (F 0)) 8 == 0) = !hasB (F 0) 3) := Lib.hid (has_and (F 0) HP.out 3)
  have A4 : Hid ((bits .and .i64 (partsN (F 0)) 16 == 0) = !hasB (F 0) 4) := Lib.hid (has_and (F 0) HP.out 4)
  have A5 : Hid ((bits .and .i64 (partsN (F 0)) 32 == 0) = !hasB (F 0) 5) := Lib.hid (has_and (F 0) HP.out 5)
  have A6 : Hid ((bits .and .i64 (partsN (F 0)) 64 == 0) = !hasB (F 0) 6) := Lib.hid (has_and (F 0) HP.out 6)
  have A7 : Hid ((bits .and .i64 (partsN (F 0)) 128 == 0) = !hasB (F 0) 7) := Lib.hid (has_and (F 0) HP.out 7)
  have A8 : Hid ((bits .and .i64 (partsN (F 0)) 256 == 0) = !hasB (F 0) 8) := Lib.hid (has_and (F 0) HP.out 8)
  have A9 : Hid ((bits .and .i64 (partsN (F 0)) 512 == 0) = !hasB (F 0) 9) := Lib.hid (has_and (F 0) HP.out 9)
  have A10 : Hid ((bits .and .i64 (partsN (F 0)) 1024 == 0) = !hasB (F 0) 10) := Lib.hid (has_and (F 0) HP.out 10)
  have HT : Hid (decide (0 ≤ partsN (F 0)) = true ∧ decide (0 ≤ F 1) = true ∧ decide (F 1 < 12) = true) := Lib.hid ⟨decide_eq_true HP.out, decide_eq_true (by omega), decide_eq_true (by omega)⟩
  rw [HT.out.1, HT.out.2.1, HT.out.2.2] at HR0
  simp only [Bool.true_and] at HR0
  clear HT
  generalize partsN (F 0) = h at *
  go_wp2_with fail
  refine (in_any (hasB (F 0) 0) h 1 (F 5) 0 7 A0.out _).mono ?_
  rintro e w2 ⟨rfl, rfl⟩
  rcases hb : inB (hasB (F 0) 0) (F 5) 0 7 with _ | _
  · have hq : r = false := by rw [← HR0.out, hb, Bool.false_and]
    subst hq
    clear HR0 hb
    go_wp2_with fail
    go_ret
    exact ⟨rfl, HB.out⟩
  rw [hb] at HR0
  simp only [Bool.true_and] at HR0
  have HB0 := Lib.hid hb
  clear hb c5
  go_wp2_with fail
  refine (in_any (hasB (F 0) 1) h 2 (F 6) 1 60000 A1.out _).mono ?_
  rintro e w2 ⟨rfl, rfl⟩
  rcases hb : inB (hasB (F 0) 1) (F 6) 1 60000 with _ | _
  · have hq : r = false := by rw [← HR0.out, hb, Bool.false_and]
    subst hq
    clear HR0 hb
    go_wp2_with fail
    go_ret
    exact ⟨rfl, HB.out⟩
  rw [hb] at HR0
  simp only [Bool.true_and] at HR0
  have HB1 := Lib.hid hb
  clear hb c6
  go_wp2_with fail
  refine (in_any (hasB (F 0) 2) h 4 (F 7) 0 1048576 A2.out _).mono ?_
  rintro e w2 ⟨rfl, rfl⟩
  rcases hb : inB (hasB (F 0) 2) (F 7) 0 1048576 with _ | _
  · have hq : r = false := by rw [← HR0.out, hb, Bool.false_and]
    subst hq
    clear HR0 hb
    go_wp2_with fail
    go_ret
    exact ⟨rfl, HB.out⟩
  rw [hb] at HR0
  simp only [Bool.true_and] at HR0
  have HB2 := Lib.hid hb
  clear hb c7
  go_wp2_with fail
  refine (in_any (hasB (F 0) 3) h 8 (F 8) 0 9 A3.out _).mono ?_
  rintro e w2 ⟨rfl, rfl⟩
  rcases hb : inB (hasB (F 0) 3) (F 8) 0 9 with _ | _
  · have hq : r = false := by rw [← HR0.out, hb, Bool.false_and]
    subst hq
    clear HR0 hb
    go_wp2_with fail
    go_ret
    exact ⟨rfl, HB.out⟩
  rw [hb] at HR0
  simp only [Bool.true_and] at HR0
  have HB3 := Lib.hid hb
  clear hb c8
  go_wp2_with fail
  refine (in_any (hasB (F 0) 4) h 16 (F 9) 0 65535 A4.out _).mono ?_
  rintro e w2 ⟨rfl, rfl⟩
  rcases hb : inB (hasB (F 0) 4) (F 9) 0 65535 with _ | _
  · have hq : r = false := by rw [← HR0.out, hb, Bool.false_and]
    subst hq
    clear HR0 hb
    go_wp2_with fail
    go_ret
    exact ⟨rfl, HB.out⟩
  rw [hb] at HR0
  simp only [Bool.true_and] at HR0
  have HB4 := Lib.hid hb
  clear hb
  have hmx : max (F 9) 0 = F 9 := Int.max_eq_left (inB_bd HB4.out (by omega) (by omega)).1
  have hb9 := inB_bd HB4.out (by omega) (by omega)
  have hb9a := hb9.1
  have hb9b := hb9.2
  clear hb9
  go_wp2_with fail
  refine (in_any (hasB (F 0) 5) h 32 (F 10) (F 9 + 1) 65535 A5.out _).mono ?_
  rintro e w2 ⟨rfl, rfl⟩
  rcases hb : inB (hasB (F 0) 5) (F 10) (F 9 + 1) 65535 with _ | _
  · have hq : r = false := by rw [← HR0.out, hb, Bool.false_and]
    subst hq
    clear HR0 hb
    go_wp2_with fail
    go_ret
    exact ⟨rfl, HB.out⟩
  rw [hb] at HR0
  simp only [Bool.true_and] at HR0
  have HB5 := Lib.hid hb
  clear hb c9 c10
  clear hmx hb9a hb9b
  have c11 := HA.out.c11
  have c12 := HA.out.c12
  have hz6 : (hasB (F 0) 6 = false → F 11 ≠ 0 → r = false) := fun h1 h2 => by rw [← HR0.out, h1, show (F 11 == 0) = false by simpa using h2]; rfl
  have HZ6 := Lib.hid hz6
  clear hz6
  rcases hh6 : hasB (F 0) 6 with _ | _
  · have a6 := A6.out
    rw [hh6] at a6
    by_cases hzz : F 11 = 0
    · have hbz6 : (F 11 != 0) = false := by rw [hzz]; rfl
      rw [hh6, hzz] at HR0
      simp only [Bool.false_or, Bool.true_and, BEq.rfl] at HR0
      clear hzz HZ6 hh6
      have hz7 : (hasB (F 0) 7 = false → F 12 ≠ 0 → r = false) := fun h1 h2 => by rw [← HR0.out, h1, show (F 12 == 0) = false by simpa using h2]; rfl
      have HZ7 := Lib.hid hz7
      clear hz7
      rcases hh7 : hasB (F 0) 7 with _ | _
      · have a7 := A7.out
        rw [hh7] at a7
        by_cases hzz : F 12 = 0
        · have hbz7 : (F 12 != 0) = false := by rw [hzz]; rfl
          rw [hh7, hzz] at HR0
          simp only [Bool.false_or, Bool.true_and, BEq.rfl] at HR0
          clear hzz HZ7 hh7
          have c13 := HA.out.c13
          have c14 := HA.out.c14
          have c15 := HA.out.c15
          go_wp2_with fail
          refine (rows_any (hasB (F 0) 8) h 256 ni 16 A8.out _).mono ?_
          rintro e w2 ⟨rfl, rfl⟩
          rcases hb : inB (hasB (F 0) 8) (ni : Nat) 1 16 with _ | _
          · have hq : r = false := by rw [← HR0.out, hb, Bool.false_and]
            subst hq
            clear HR0 hb
            go_wp2_with fail
            go_ret
            exact ⟨rfl, HB.out⟩
          rw [hb] at HR0
          simp only [Bool.true_and] at HR0
          have HB8 := Lib.hid hb
          clear hb
          go_wp2_with fail
          refine (rows_any (hasB (F 0) 9) h 512 nl 16 A9.out _).mono ?_
          rintro e w2 ⟨rfl, rfl⟩
          rcases hb : inB (hasB (F 0) 9) (nl : Nat) 1 16 with _ | _
          · have hq : r = false := by rw [← HR0.out, hb, Bool.false_and]
            subst hq
            clear HR0 hb
            go_wp2_with fail
            go_ret
            exact ⟨rfl, HB.out⟩
          rw [hb] at HR0
          simp only [Bool.true_and] at HR0
          have HB9 := Lib.hid hb
          clear hb
          go_wp2_with fail
          refine (rows_any (hasB (F 0) 10) h 1024 d.length 64 A10.out _).mono ?_
          rintro e w2 ⟨rfl, rfl⟩
          rcases hb : inB (hasB (F 0) 10) (d.length : Nat) 1 64 with _ | _
          · have hq : r = false := by rw [← HR0.out, hb, Bool.false_and]
            subst hq
            clear HR0 hb
            go_wp2_with fail
            go_ret
            exact ⟨rfl, HB.out⟩
          rw [hb] at HR0
          simp only [Bool.true_and] at HR0
          have HB10 := Lib.hid hb
          clear hb
          clear c13 c14 c15
          go_wp2_with (refine wpList_load_g (by rfl) 30 _ rfl w.heap.size 0 rfl _ _ HA.out.range Try.underlying30 rfl (size_msg _ _ _ _) ?_)
          refine (mayLog_any F _ _ _ (F 7) nl D (Lib.hid rfl) (inB_bd HB2.out (by omega) (by omega)) (by have := inB_bd HB9.out (by omega) (by omega); omega) _ HRows.out.l).mono ?_
          rintro e w2 ⟨rfl, hb2⟩
          have HB' := Lib.hid (HB.out.trans (hb2.mono HB.out.size))
          have HI := Lib.hid (HRows.out.i.below hb2 (Nat.le_refl _))
          have HA2 := Lib.hid (HA.out.block (hb2.block _ HA.out.lt))
          clear hb2 HB HA HRows
          rcases hl : logOk (F 7) D nl with _ | _
          · have hq : r = false := by rw [← HR0.out, hl, Bool.false_and]
            subst hq
            clear HR0 hl
            go_wp2_with fail
            go_ret
            exact ⟨rfl, HB'.out⟩
          rw [hl] at HR0
          simp only [Bool.true_and] at HR0
          clear hl
          have c13 := HA2.out.c13
          have HI2 := Lib.hid (inps_form HI.out)
          go_wp2_with fail
          refine (contInpW a1 ni cap1 (by have := HM1.out; omega) I _ HI2.out).mono ?_
          rintro e w3 ⟨rfl, hb3⟩
          have HB'' := Lib.hid (HB'.out.trans (hb3.mono HB'.out.size))
          rw [HR0.out]
          clear hb3 HB' HI HI2 HR0 c13 HA2
          go_wp2_with fail
          go_ret
          exact ⟨by simp, HB''.out⟩
        · have hbz7 : (F 12 != 0) = true := by simpa using hzz
          have hq := HZ7.out hh7 hzz
          subst hq
          clear HR0 HZ7 hzz hh7
          go_wp2_with fail
          go_ret
          exact ⟨rfl, HB.out⟩
      · have a7 := A7.out
        rw [hh7] at a7 HR0
        simp only [Bool.true_or, Bool.true_and] at HR0
        clear HZ7 hh7
        have c13 := HA.out.c13
        have c14 := HA.out.c14
        have c15 := HA.out.c15
        go_wp2_with fail
        refine (rows_any (hasB (F 0) 8) h 256 ni 16 A8.out _).mono ?_
        rintro e w2 ⟨rfl, rfl⟩
        rcases hb : inB (hasB (F 0) 8) (ni : Nat) 1 16 with _ | _
        · have hq : r = false := by rw [← HR0.out, hb, Bool.false_and]
          subst hq
          clear HR0 hb
          go_wp2_with fail
          go_ret
          exact ⟨rfl, HB.out⟩
        rw [hb] at HR0
        simp only [Bool.true_and] at HR0
        have HB8 := Lib.hid hb
        clear hb
        go_wp2_with fail
        refine (rows_any (hasB (F 0) 9) h 512 nl 16 A9.out _).mono ?_
        rintro e w2 ⟨rfl, rfl⟩
        rcases hb : inB (hasB (F 0) 9) (nl : Nat) 1 16 with _ | _
        · have hq : r = false := by rw [← HR0.out, hb, Bool.false_and]
          subst hq
          clear HR0 hb
          go_wp2_with fail
          go_ret
          exact ⟨rfl, HB.out⟩
        rw [hb] at HR0
        simp only [Bool.true_and] at HR0
        have HB9 := Lib.hid hb
        clear hb
        go_wp2_with fail
        refine (rows_any (hasB (F 0) 10) h 1024 d.length 64 A10.out _).mono ?_
        rintro e w2 ⟨rfl, rfl⟩
        rcases hb : inB (hasB (F 0) 10) (d.length : Nat) 1 64 with _ | _
        · have hq : r = false := by rw [← HR0.out, hb, Bool.false_and]
          subst hq
          clear HR0 hb
          go_wp2_with fail
          go_ret
          exact ⟨rfl, HB.out⟩
        rw [hb] at HR0
        simp only [Bool.true_and] at HR0
        have HB10 := Lib.hid hb
        clear hb
        clear c13 c14 c15
        go_wp2_with (refine wpList_load_g (by rfl) 30 _ rfl w.heap.size 0 rfl _ _ HA.out.range Try.underlying30 rfl (size_msg _ _ _ _) ?_)
        refine (mayLog_any F _ _ _ (F 7) nl D (Lib.hid rfl) (inB_bd HB2.out (by omega) (by omega)) (by have := inB_bd HB9.out (by omega) (by omega); omega) _ HRows.out.l).mono ?_
        rintro e w2 ⟨rfl, hb2⟩
        have HB' := Lib.hid (HB.out.trans (hb2.mono HB.out.size))
        have HI := Lib.hid (HRows.out.i.below hb2 (Nat.le_refl _))
        have HA2 := Lib.hid (HA.out.block (hb2.block _ HA.out.lt))
        clear hb2 HB HA HRows
        rcases hl : logOk (F 7) D nl with _ | _
        · have hq : r = false := by rw [← HR0.out, hl, Bool.false_and]
          subst hq
          clear HR0 hl
          go_wp2_with fail
          go_ret
          exact ⟨rfl, HB'.out⟩
        rw [hl] at HR0
        simp only [Bool.true_and] at HR0
        clear hl
        have c13 := HA2.out.c13
        have HI2 := Lib.hid (inps_form HI.out)
        go_wp2_with fail
        refine (contInpW a1 ni cap1 (by have := HM1.out; omega) I _ HI2.out).mono ?_
        rintro e w3 ⟨rfl, hb3⟩
        have HB'' := Lib.hid (HB'.out.trans (hb3.mono HB'.out.size))
        rw [HR0.out]
        clear hb3 HB' HI HI2 HR0 c13 HA2
        go_wp2_with fail
        go_ret
        exact ⟨by simp, HB''.out⟩
    · have hbz6 : (F 11 != 0) = true := by simpa using hzz
      have hq := HZ6.out hh6 hzz
      subst hq
      clear HR0 HZ6 hzz hh6
      go_wp2_with fail
      go_ret
      exact ⟨rfl, HB.out⟩
  · have a6 := A6.out
    rw [hh6] at a6 HR0
    simp only [Bool.true_or, Bool.true_and] at HR0
    clear HZ6 hh6
    have hz7 : (hasB (F 0) 7 = false → F 12 ≠ 0 → r = false) := fun h1 h2 => by rw [← HR0.out, h1, show (F 12 == 0) = false by simpa using h2]; rfl
    have HZ7 := Lib.hid hz7
    clear hz7
    rcases hh7 : hasB (F 0) 7 with _ | _
    · have a7 := A7.out
      rw [hh7] at a7
      by_cases hzz : F 12 = 0
      · have hbz7 : (F 12 != 0) = false := by rw [hzz]; rfl
        rw [hh7, hzz] at HR0
        simp only [Bool.false_or, Bool.true_and, BEq.rfl] at HR0
        clear hzz HZ7 hh7
        have c13 := HA.out.c13
        have c14 := HA.out.c14
        have c15 := HA.out.c15
        go_wp2_with fail
        refine (rows_any (hasB (F 0) 8) h 256 ni 16 A8.out _).mono ?_
        rintro e w2 ⟨rfl, rfl⟩
        rcases hb : inB (hasB (F 0) 8) (ni : Nat) 1 16 with _ | _
        · have hq : r = false := by rw [← HR0.out, hb, Bool.false_and]
          subst hq
          clear HR0 hb
          go_wp2_with fail
          go_ret
          exact ⟨rfl, HB.out⟩
        rw [hb] at HR0
        simp only [Bool.true_and] at HR0
        have HB8 := Lib.hid hb
        clear hb
        go_wp2_with fail
        refine (rows_any (hasB (F 0) 9) h 512 nl 16 A9.out _).mono ?_
        rintro e w2 ⟨rfl, rfl⟩
        rcases hb : inB (hasB (F 0) 9) (nl : Nat) 1 16 with _ | _
        · have hq : r = false := by rw [← HR0.out, hb, Bool.false_and]
          subst hq
          clear HR0 hb
          go_wp2_with fail
          go_ret
          exact ⟨rfl, HB.out⟩
        rw [hb] at HR0
        simp only [Bool.true_and] at HR0
        have HB9 := Lib.hid hb
        clear hb
        go_wp2_with fail
        refine (rows_any (hasB (F 0) 10) h 1024 d.length 64 A10.out _).mono ?_
        rintro e w2 ⟨rfl, rfl⟩
        rcases hb : inB (hasB (F 0) 10) (d.length : Nat) 1 64 with _ | _
        · have hq : r = false := by rw [← HR0.out, hb, Bool.false_and]
          subst hq
          clear HR0 hb
          go_wp2_with fail
          go_ret
          exact ⟨rfl, HB.out⟩
        rw [hb] at HR0
        simp only [Bool.true_and] at HR0
        have HB10 := Lib.hid hb
        clear hb
        clear c13 c14 c15
        go_wp2_with (refine wpList_load_g (by rfl) 30 _ rfl w.heap.size 0 rfl _ _ HA.out.range Try.underlying30 rfl (size_msg _ _ _ _) ?_)
        refine (mayLog_any F _ _ _ (F 7) nl D (Lib.hid rfl) (inB_bd HB2.out (by omega) (by omega)) (by have := inB_bd HB9.out (by omega) (by omega); omega) _ HRows.out.l).mono ?_
        rintro e w2 ⟨rfl, hb2⟩
        have HB' := Lib.hid (HB.out.trans (hb2.mono HB.out.size))
        have HI := Lib.hid (HRows.out.i.below hb2 (Nat.le_refl _))
        have HA2 := Lib.hid (HA.out.block (hb2.block _ HA.out.lt))
        clear hb2 HB HA HRows
        rcases hl : logOk (F 7) D nl with _ | _
        · have hq : r = false := by rw [← HR0.out, hl, Bool.false_and]
          subst hq
          clear HR0 hl
          go_wp2_with fail
          go_ret
          exact ⟨rfl, HB'.out⟩
        rw [hl] at HR0
        simp only [Bool.true_and] at HR0
        clear hl
        have c13 := HA2.out.c13
        have HI2 := Lib.hid (inps_form HI.out)
        go_wp2_with fail
        refine (contInpW a1 ni cap1 (by have := HM1.out; omega) I _ HI2.out).mono ?_
        rintro e w3 ⟨rfl, hb3⟩
        have HB'' := Lib.hid (HB'.out.trans (hb3.mono HB'.out.size))
        rw [HR0.out]
        clear hb3 HB' HI HI2 HR0 c13 HA2
        go_wp2_with fail
        go_ret
        exact ⟨by simp, HB''.out⟩
      · have hbz7 : (F 12 != 0) = true := by simpa using hzz
        have hq := HZ7.out hh7 hzz
        subst hq
        clear HR0 HZ7 hzz hh7
        go_wp2_with fail
        go_ret
        exact ⟨rfl, HB.out⟩
    · have a7 := A7.out
      rw [hh7] at a7 HR0
      simp only [Bool.true_or, Bool.true_and] at HR0
      clear HZ7 hh7
      have c13 := HA.out.c13
      have c14 := HA.out.c14
      have c15 := HA.out.c15
      go_wp2_with fail
      refine (rows_any (hasB (F 0) 8) h 256 ni 16 A8.out _).mono ?_
      rintro e w2 ⟨rfl, rfl⟩
      rcases hb : inB (hasB (F 0) 8) (ni : Nat) 1 16 with _ | _
      · have hq : r = false := by rw [← HR0.out, hb, Bool.false_and]
        subst hq
        clear HR0 hb
        go_wp2_with fail
        go_ret
        exact ⟨rfl, HB.out⟩
      rw [hb] at HR0
      simp only [Bool.true_and] at HR0
      have HB8 := Lib.hid hb
      clear hb
      go_wp2_with fail
      refine (rows_any (hasB (F 0) 9) h 512 nl 16 A9.out _).mono ?_
      rintro e w2 ⟨rfl, rfl⟩
      rcases hb : inB (hasB (F 0) 9) (nl : Nat) 1 16 with _ | _
      · have hq : r = false := by rw [← HR0.out, hb, Bool.false_and]
        subst hq
        clear HR0 hb
        go_wp2_with fail
        go_ret
        exact ⟨rfl, HB.out⟩
      rw [hb] at HR0
      simp only [Bool.true_and] at HR0
      have HB9 := Lib.hid hb
      clear hb
      go_wp2_with fail
      refine (rows_any (hasB (F 0) 10) h 1024 d.length 64 A10.out _).mono ?_
      rintro e w2 ⟨rfl, rfl⟩
      rcases hb : inB (hasB (F 0) 10) (d.length : Nat) 1 64 with _ | _
      · have hq : r = false := by rw [← HR0.out, hb, Bool.false_and]
        subst hq
        clear HR0 hb
        go_wp2_with fail
        go_ret
        exact ⟨rfl, HB.out⟩
      rw [hb] at HR0
      simp only [Bool.true_and] at HR0
      have HB10 := Lib.hid hb
      clear hb
      clear c13 c14 c15
      go_wp2_with (refine wpList_load_g (by rfl) 30 _ rfl w.heap.size 0 rfl _ _ HA.out.range Try.underlying30 rfl (size_msg _ _ _ _) ?_)
      refine (mayLog_any F _ _ _ (F 7) nl D (Lib.hid rfl) (inB_bd HB2.out (by omega) (by omega)) (by have := inB_bd HB9.out (by omega) (by omega); omega) _ HRows.out.l).mono ?_
      rintro e w2 ⟨rfl, hb2⟩
      have HB' := Lib.hid (HB.out.trans (hb2.mono HB.out.size))
      have HI := Lib.hid (HRows.out.i.below hb2 (Nat.le_refl _))
      have HA2 := Lib.hid (HA.out.block (hb2.block _ HA.out.lt))
      clear hb2 HB HA HRows
      rcases hl : logOk (F 7) D nl with _ | _
      · have hq : r = false := by rw [← HR0.out, hl, Bool.false_and]
        subst hq
        clear HR0 hl
        go_wp2_with fail
        go_ret
        exact ⟨rfl, HB'.out⟩
      rw [hl] at HR0
      simp only [Bool.true_and] at HR0
      clear hl
      have c13 := HA2.out.c13
      have HI2 := Lib.hid (inps_form HI.out)
      go_wp2_with fail
      refine (contInpW a1 ni cap1 (by have := HM1.out; omega) I _ HI2.out).mono ?_
      rintro e w3 ⟨rfl, hb3⟩
      have HB'' := Lib.hid (HB'.out.trans (hb3.mono HB'.out.size))
      rw [HR0.out]
      clear hb3 HB' HI HI2 HR0 c13 HA2
      go_wp2_with fail
      go_ret
      exact ⟨by simp, HB''.out⟩
end Go.Proofs.Ytembppihfcclcaa
