/-
  Wire: Same, of any two messages.
-/
import Derived.Test.YtembppihfcclcaaMV
import Derived.Test.YtembppihfcclcaaG31x
import Derived.Deep.DeepCutAuto
namespace Go.Proofs.Ytembppihfcclcaa
set_option linter.unusedVariables false
open Go.ChangeShapes Go.WideShapes Go.ChangeAt Go.RowKit

set_option linter.unusedSimpArgs false
set_option maxRecDepth 100000 in
set_option maxHeartbeats 8000000 in
theorem sameM_any (M N : Msg) (iv lv dv iv' lv' dv' : Value) (w : World) (h : RowsV w iv lv dv M) (h' : RowsV w iv' lv' dv' N) (hd : ByteL M.d) (hd' : ByteL N.d) :
    Calls Try.prog 23 #[.agg (msgL M.F iv lv dv).toArray, .agg (msgL N.F iv' lv' dv').toArray] w fun e w' => e = .returned (.bool (sameM M N)) ∧ Below w.heap.size w w' := by
  have hA1 := msgAt_new M.F iv lv dv 30 w
  have hB1 := (Below.refl w.heap.size w).alloc (Nat.le_refl _) (Obj.cells (msgL M.F iv lv dv).toArray 30)
  have hA2 := msgAt_new N.F iv' lv' dv' 30 (w.alloc (Obj.cells (msgL M.F iv lv dv).toArray 30))
  have hA1' := hA1.block (Below.heap_alloc _ (Obj.cells (msgL N.F iv' lv' dv').toArray 30) _ hA1.lt)
  have hB2 := hB1.alloc hB1.size (Obj.cells (msgL N.F iv' lv' dv').toArray 30)
  have hsz : (w.alloc (Obj.cells (msgL M.F iv lv dv).toArray 30)).heap.size = w.heap.size + 1 := by simp
  rw [hsz] at hA2
  have HA := Lib.hid hA1'
  have HA' := Lib.hid hA2
  have HB := Lib.hid hB2
  have HV := Lib.hid (h.below hB2 (Nat.le_refl _))
  have HV' := Lib.hid (h'.below hB2 (Nat.le_refl _))
  have HD := Lib.hid hd
  have HD' := Lib.hid hd'
  have HSm : Hid (sameM M N = (numB M.F N.F 13 && rowsB M N)) := Lib.hid rfl
  clear hA1 hA2 hA1' hB1 hB2 hsz h h' hd hd'
  go_enter Try.func23, Try.ntmps23
  go_upto_region 1 with (fail)
  generalize (w.alloc (Obj.cells (msgL M.F iv lv dv).toArray 30)).alloc (Obj.cells (msgL N.F iv' lv' dv').toArray 30) = w1 at *
  go_cut [5] (fun c wx => c = .bool (numB M.F N.F 13) ∧ wx = w1)
  case first =>
    refine wp_region_lit ?_
    refine blkS0 true 6 95 5 0 w.heap.size (w.heap.size + 1) rfl rfl rfl rfl rfl (of_decide_eq_true (by kernel_rfl)) (by decide) rfl rfl (by decide) HA.out.c0 HA'.out.c0 (Or.inl ⟨rfl, rfl⟩) ?_
    intro a1 hF1 hs1
    refine blkS true 6 95 10 11 5 1 w.heap.size (w.heap.size + 1) rfl rfl rfl rfl rfl rfl rfl rfl (of_decide_eq_true (by kernel_rfl)) (by decide) hF1 hs1 rfl rfl (by decide) HA.out.c1 HA'.out.c1 (Or.inl ⟨rfl, rfl⟩) ?_
    clear hF1 hs1
    intro a2 hF2 hs2
    refine blkS true 6 95 17 18 12 2 w.heap.size (w.heap.size + 1) rfl rfl rfl rfl rfl rfl rfl rfl (of_decide_eq_true (by kernel_rfl)) (by decide) hF2 hs2 rfl rfl (by decide) HA.out.c2 HA'.out.c2 (Or.inr (Or.inl ⟨rfl, rfl⟩)) ?_
    clear hF2 hs2
    intro a3 hF3 hs3
    refine blkS true 6 95 24 25 19 3 w.heap.size (w.heap.size + 1) rfl rfl rfl rfl rfl rfl rfl rfl (of_decide_eq_true (by kernel_rfl)) (by decide) hF3 hs3 rfl rfl (by decide) HA.out.c3 HA'.out.c3 (Or.inr (Or.inl ⟨rfl, rfl⟩)) ?_
    clear hF3 hs3
    intro a4 hF4 hs4
    refine blkS true 6 95 31 32 26 4 w.heap.size (w.heap.size + 1) rfl rfl rfl rfl rfl rfl rfl rfl (of_decide_eq_true (by kernel_rfl)) (by decide) hF4 hs4 rfl rfl (by decide) HA.out.c4 HA'.out.c4 (Or.inr (Or.inr (Or.inl ⟨rfl, rfl⟩))) ?_
    clear hF4 hs4
    intro a5 hF5 hs5
    refine blkS true 6 95 38 39 33 5 w.heap.size (w.heap.size + 1) rfl rfl rfl rfl rfl rfl rfl rfl (of_decide_eq_true (by kernel_rfl)) (by decide) hF5 hs5 rfl rfl (by decide) HA.out.c5 HA'.out.c5 (Or.inl ⟨rfl, rfl⟩) ?_
    clear hF5 hs5
    intro a6 hF6 hs6
    refine blkS true 6 95 45 46 40 6 w.heap.size (w.heap.size + 1) rfl rfl rfl rfl rfl rfl rfl rfl (of_decide_eq_true (by kernel_rfl)) (by decide) hF6 hs6 rfl rfl (by decide) HA.out.c6 HA'.out.c6 (Or.inl ⟨rfl, rfl⟩) ?_
    clear hF6 hs6
    intro a7 hF7 hs7
    refine blkS true 6 95 52 53 47 7 w.heap.size (w.heap.size + 1) rfl rfl rfl rfl rfl rfl rfl rfl (of_decide_eq_true (by kernel_rfl)) (by decide) hF7 hs7 rfl rfl (by decide) HA.out.c7 HA'.out.c7 (Or.inl ⟨rfl, rfl⟩) ?_
    clear hF7 hs7
    intro a8 hF8 hs8
    refine blkS true 6 95 59 60 54 8 w.heap.size (w.heap.size + 1) rfl rfl rfl rfl rfl rfl rfl rfl (of_decide_eq_true (by kernel_rfl)) (by decide) hF8 hs8 rfl rfl (by decide) HA.out.c8 HA'.out.c8 (Or.inl ⟨rfl, rfl⟩) ?_
    clear hF8 hs8
    intro a9 hF9 hs9
    refine blkS true 6 95 66 67 61 9 w.heap.size (w.heap.size + 1) rfl rfl rfl rfl rfl rfl rfl rfl (of_decide_eq_true (by kernel_rfl)) (by decide) hF9 hs9 rfl rfl (by decide) HA.out.c9 HA'.out.c9 (Or.inl ⟨rfl, rfl⟩) ?_
    clear hF9 hs9
    intro a10 hF10 hs10
    refine blkS true 6 95 73 74 68 10 w.heap.size (w.heap.size + 1) rfl rfl rfl rfl rfl rfl rfl rfl (of_decide_eq_true (by kernel_rfl)) (by decide) hF10 hs10 rfl rfl (by decide) HA.out.c10 HA'.out.c10 (Or.inl ⟨rfl, rfl⟩) ?_
    clear hF10 hs10
    intro a11 hF11 hs11
    refine blkS true 6 95 80 81 75 11 w.heap.size (w.heap.size + 1) rfl rfl rfl rfl rfl rfl rfl rfl (of_decide_eq_true (by kernel_rfl)) (by decide) hF11 hs11 rfl rfl (by decide) HA.out.c11 HA'.out.c11 (Or.inr (Or.inr (Or.inl ⟨rfl, rfl⟩))) ?_
    clear hF11 hs11
    intro a12 hF12 hs12
    refine blkS true 6 95 87 88 82 12 w.heap.size (w.heap.size + 1) rfl rfl rfl rfl rfl rfl rfl rfl (of_decide_eq_true (by kernel_rfl)) (by decide) hF12 hs12 rfl rfl (by decide) HA.out.c12 HA'.out.c12 (Or.inr (Or.inr (Or.inr ⟨rfl, rfl⟩))) ?_
    clear hF12 hs12
    intro a13 hF13 hs13
    have hs : a13.tmps[94]? = some (.bool (numB M.F N.F 13)) := hs13
    clear hs13
    obtain ⟨u, hu⟩ := hF13.lit
    have hl : a13 = ⟨#[.agg (msgL M.F iv lv dv).toArray, .agg (msgL N.F iv' lv' dv').toArray, .pointer (some ⟨w.heap.size, 0, none⟩), .pointer (some ⟨w.heap.size + 1, 0, none⟩), .bool false, undef, u 6, u 7, u 8, u 9, u 10, u 11, u 12, u 13, u 14, u 15, u 16, u 17, u 18, u 19, u 20, u 21, u 22, u 23, u 24, u 25, u 26, u 27, u 28, u 29, u 30, u 31, u 32, u 33, u 34, u 35, u 36, u 37, u 38, u 39, u 40, u 41, u 42, u 43, u 44, u 45, u 46, u 47, u 48, u 49, u 50, u 51, u 52, u 53, u 54, u 55, u 56, u 57, u 58, u 59, u 60, u 61, u 62, u 63, u 64, u 65, u 66, u 67, u 68, u 69, u 70, u 71, u 72, u 73, u 74, u 75, u 76, u 77, u 78, u 79, u 80, u 81, u 82, u 83, u 84, u 85, u 86, u 87, u 88, u 89, u 90, u 91, u 92, u 93, u 94, undef, undef, undef, undef, undef, undef, undef, undef, undef, undef, undef, undef, undef, undef, undef, undef, undef, undef, undef, undef, undef, undef], []⟩ := hu.trans (by kernel_rfl)
    clear hu hF13
    subst hl
    have hs94 : u 94 = .bool (numB M.F N.F 13) := Option.some.inj hs
    clear hs
    rw [hs94]
    generalize u = uu at *
    go_wp2_with fail
    go_meet
    exact ⟨rfl, rfl⟩
  case rest =>
    obtain ⟨rfl, rfl⟩ := hcut
    have c13 := HA.out.c13
    have d13 := HA'.out.c13
    rcases hnb : numB M.F N.F 13 with _ | _
    · have HNB := Lib.hid hnb
      clear hnb c13 d13
      go_wp2_with fail
      go_ret
      exact ⟨by rw [HSm.out, HNB.out]; rfl, HB.out⟩
    replace HSm : Hid (sameM M N = rowsB M N) := Lib.hid (by rw [HSm.out, hnb]; rfl)
    clear hnb
    go_wp2_with fail
    refine (eqIn_any M.ni N.ni M.I N.I iv iv' _ HV.out.i HV'.out.i).mono ?_
    rintro e w2 ⟨rfl, hb2⟩
    have hsl := HA'.out.lt
    have c14 := (HA.out.block (hb2.block _ (by omega))).c14
    have d14 := (HA'.out.block (hb2.block _ (by omega))).c14
    have HA2 := Lib.hid (HA.out.block (hb2.block _ (by omega)))
    have HA2' := Lib.hid (HA'.out.block (hb2.block _ (by omega)))
    have HV2 := Lib.hid (HV.out.below hb2 (Nat.le_refl _))
    have HV2' := Lib.hid (HV'.out.below hb2 (Nat.le_refl _))
    have HB2 := Lib.hid (HB.out.trans (hb2.mono HB.out.size))
    have hsl2 : w.heap.size + 1 < w2.heap.size := HA2'.out.lt
    clear hb2 c13 d13 HV HV' HB HA HA'
    rcases hbi : (decide (M.ni = N.ni) && insEq M.I N.I M.ni) with _ | _
    · have HBI := Lib.hid hbi
      clear hbi
      go_wp2_with fail
      go_ret
      exact ⟨by rw [HSm.out]; unfold rowsB; rw [HBI.out]; rfl, HB2.out⟩
    have HBI := Lib.hid hbi
    clear hbi
    go_wp2_with fail
    refine (eqFunc_any M.nl N.nl M.D N.D lv lv' _ HV2.out.l HV2'.out.l).mono ?_
    rintro e w3 ⟨rfl, hb3⟩
    have c15 := (HA2.out.block (hb3.block _ (by omega))).c15
    have d15 := (HA2'.out.block (hb3.block _ (by omega))).c15
    have HV3 := Lib.hid (HV2.out.below hb3 (Nat.le_refl _))
    have HV3' := Lib.hid (HV2'.out.below hb3 (Nat.le_refl _))
    have HB3 := Lib.hid (HB2.out.trans (hb3.mono HB2.out.size))
    clear hb3 c14 d14 HV2 HV2' HB2
    rcases hbl : (decide (M.nl = N.nl) && entsEq M.D N.D M.nl) with _ | _
    · have HBL := Lib.hid hbl
      clear hbl
      go_wp2_with fail
      go_ret
      exact ⟨by rw [HSm.out]; unfold rowsB; rw [HBI.out, HBL.out]; rfl, HB3.out⟩
    have HBL := Lib.hid hbl
    clear hbl
    go_wp2_with fail
    refine (bytesEq_any dv dv' M.d N.d w3 HV3.out.d HV3'.out.d HD.out HD'.out).mono ?_
    rintro e w4 ⟨rfl, rfl⟩
    go_wp2_with fail
    go_ret
    exact ⟨by rw [HSm.out]; unfold rowsB; rw [HBI.out, HBL.out]; rfl, HB3.out⟩
end Go.Proofs.Ytembppihfcclcaa
