/-
  Wire: WireBack: a message comes back from its datagram.
-/
import Derived.Test.YtembppihfcclcaaMW
namespace Go.Proofs.Ytembppihfcclcaa
set_option linter.unusedVariables false
open Go.ChangeShapes Go.WideShapes Go.ChangeAt Go.RowKit

set_option linter.unusedSimpArgs false
set_option maxRecDepth 100000 in
set_option maxHeartbeats 8000000 in
theorem law_WireBack (v0 : Value) (w : World) (w0 : IsMsg w v0) :
    Calls Try.prog 6 #[v0] w fun e w' => e = .returned (.bool true) ∧ Below w.heap.size w w' := by
  obtain ⟨M, iv, lv, dv, rfl, hr, hmb, -⟩ := w0
  have HA := Lib.hid (msgAt_new M.F iv lv dv 30 w)
  have HB := Lib.hid ((Below.refl w.heap.size w).alloc (Nat.le_refl _) (Obj.cells (msgL M.F iv lv dv).toArray 30))
  have HR := Lib.hid (hr.below HB.out (Nat.le_refl _))
  have HM := Lib.hid hmb
  clear hr hmb
  go_enter Try.func6, Try.ntmps6
  go_wp2_with (refine wpList_load_g (op := ⟨some 9, _, _, _, _, _⟩) (by rfl) 30 _ rfl w.heap.size 0 rfl _ _ HA.out.range Try.underlying30 rfl (size_msg _ _ _ _) ?_)
  generalize w.alloc (Obj.cells (msgL M.F iv lv dv).toArray 30) = wa at *
  refine (fewM_any M iv lv dv wa HR.out).mono ?_
  rintro e wb ⟨⟨b, rfl⟩, hb⟩
  replace HA := Lib.hid (HA.out.block (hb.block _ HA.out.lt))
  replace HB := Lib.hid (HB.out.trans (hb.mono HB.out.size))
  replace HR := Lib.hid (HR.out.below hb (Nat.le_refl _))
  clear hb
  cases b
  · go_wp2_with fail
    refine (told_law _).mono ?_
    rintro e wt ⟨rfl, hbt⟩
    replace HB := Lib.hid (HB.out.trans (hbt.mono HB.out.size))
    clear hbt
    go_wp2_with fail
    go_ret
    exact ⟨rfl, HB.out⟩
  go_wp2_with (refine wpList_load_g (op := ⟨some 14, _, _, _, _, _⟩) (by rfl) 30 _ rfl w.heap.size 0 rfl _ _ HA.out.range Try.underlying30 rfl (size_msg _ _ _ _) ?_)
  rcases hm : mayM M with _ | _
  · refine (putM_no M iv lv dv wb HR.out hm).mono ?_
    rintro e wc ⟨rfl, hb⟩
    replace HB := Lib.hid (HB.out.trans (hb.mono HB.out.size))
    clear hb
    go_wp2_with fail
    refine (told_law _).mono ?_
    rintro e wt ⟨rfl, hbt⟩
    replace HB := Lib.hid (HB.out.trans (hbt.mono HB.out.size))
    clear hbt
    go_wp2_with fail
    go_ret
    exact ⟨rfl, HB.out⟩
  refine (putM_yes M iv lv dv wb HR.out HM.out hm).mono ?_
  rintro e wc ⟨⟨-, rfl⟩ | ⟨hl, v, rfl, hO⟩, hb⟩
  · replace HB := Lib.hid (HB.out.trans (hb.mono HB.out.size))
    clear hb
    go_wp2_with fail
    refine (told_law _).mono ?_
    rintro e wt ⟨rfl, hbt⟩
    replace HB := Lib.hid (HB.out.trans (hbt.mono HB.out.size))
    clear hbt
    go_wp2_with fail
    go_ret
    exact ⟨rfl, HB.out⟩
  obtain ⟨hsum, hok, hdr⟩ := ok_put hm HM.out hl
  obtain ⟨-, hlike⟩ := back ((mayM_iff M).1 hm) HM.out
  obtain ⟨g, cap, rfl, -, -, hLc, hcm⟩ := hO.form (by have := hsum.1; omega)
  have HO := Lib.hid hO.bytes0
  have h14 : 14 ≤ (putM M).length := by
    have h1 := pS19_len M
    have h2 := pS18_ge M
    have h3 : (pS19 M).length = (pS18 M).length + M.d.length := by rw [pS19, List.length_append]
    rw [putM_eq, List.length_append, leB_len]
    omega
  replace HA := Lib.hid (HA.out.block (hb.block _ HA.out.lt))
  replace HB := Lib.hid (HB.out.trans (hb.mono HB.out.size))
  replace HR := Lib.hid (HR.out.below hb (Nat.le_refl _))
  clear hb
  clear hO
  go_wp2_with fail
  refine (getM_any _ (putM M) wc HO.out (putM_by HM.out)).mono ?_
  rintro e wd ⟨hp, hb⟩
  rcases hp with ⟨hno, -⟩ | ⟨-, hno, -⟩ | ⟨-, -, ix, lx, dx, rfl, hrow⟩
  · exact absurd hsum hno
  · exact absurd hok hno
  rw [hdr] at hrow
  rw [hdr]
  have hbX := msgB_prs (bodyM_by HM.out)
  have hXF : gF (bodyM M) = (prsM (bodyM M)).F := rfl
  rw [hXF]
  generalize prsM (bodyM M) = X at *
  have HXR := Lib.hid hrow
  have HLike := Lib.hid hlike
  have HBX := Lib.hid hbX
  have HPX : Hid (putM X = putM M) := Lib.hid hlike.put.2
  have hmX : mayM X = true := by rw [hlike.may]; exact hm
  have HMX := Lib.hid hmX
  have HL := Lib.hid hl
  have hPby := putM_by HM.out
  generalize putM M = P at *
  clear hrow hlike hbX hXF hsum hok hdr hm hmX
  replace HA := Lib.hid (HA.out.block (hb.block _ HA.out.lt))
  replace HB := Lib.hid (HB.out.trans (hb.mono HB.out.size))
  replace HR := Lib.hid (HR.out.below hb (Nat.le_refl _))
  replace HO := Lib.hid (HO.out.below hb (Nat.le_refl _))
  clear hb
  have HX := Lib.hid (msgAt_new X.F ix lx dx 30 wd)
  have bA := (Below.refl wd.heap.size wd).alloc (Nat.le_refl _) (Obj.cells (msgL X.F ix lx dx).toArray 30)
  have H1 := msgL_one HXR.out X.F
  replace HA := Lib.hid (HA.out.block (bA.block _ HA.out.lt))
  replace HB := Lib.hid (HB.out.trans (bA.mono HB.out.size))
  replace HR := Lib.hid (HR.out.below bA (Nat.le_refl _))
  replace HXR := Lib.hid (HXR.out.below bA (Nat.le_refl _))
  replace HO := Lib.hid (HO.out.below bA (Nat.le_refl _))
  clear bA
  go_wp2_with (first | (refine wpList_store_msg (op := ⟨none, Op.store 30 (.tmp 5) (.tmp 29), _, _, _, _⟩) rfl (.tmp 5) (.tmp 29) rfl X.F ix lx dx H1 wd wd.heap.size rfl rfl rfl ?_) | (refine wpList_load_g (op := ⟨some 32, _, _, _, _, _⟩) (by rfl) 30 _ rfl wd.heap.size 0 rfl _ _ HX.out.range Try.underlying30 rfl (size_msg _ _ _ _) ?_))
  generalize wd.alloc (Obj.cells (msgL X.F ix lx dx).toArray 30) = we at *
  generalize wd.heap.size = TX at *
  clear H1
  refine (putM_yes X ix lx dx we HXR.out HBX.out HMX.out).mono ?_
  rintro e wf ⟨⟨hl2, -⟩ | ⟨-, v2, rfl, hO2⟩, hb⟩
  · rw [HPX.out] at hl2
    exact absurd hl2 (by omega)
  rw [HPX.out] at hO2
  have HP := Lib.hid hO2.bytes0
  clear hO2
  replace HA := Lib.hid (HA.out.block (hb.block _ HA.out.lt))
  replace HB := Lib.hid (HB.out.trans (hb.mono HB.out.size))
  replace HR := Lib.hid (HR.out.below hb (Nat.le_refl _))
  replace HXR := Lib.hid (HXR.out.below hb (Nat.le_refl _))
  replace HX := Lib.hid (HX.out.block (hb.block _ HX.out.lt))
  replace HO := Lib.hid (HO.out.below hb (Nat.le_refl _))
  clear hb
  go_wp2_with fail
  refine (told_law _).mono ?_
  rintro e wt ⟨rfl, hbt⟩
  replace HA := Lib.hid (HA.out.block (hbt.block _ HA.out.lt))
  replace HB := Lib.hid (HB.out.trans (hbt.mono HB.out.size))
  replace HR := Lib.hid (HR.out.below hbt (Nat.le_refl _))
  replace HXR := Lib.hid (HXR.out.below hbt (Nat.le_refl _))
  replace HX := Lib.hid (HX.out.block (hbt.block _ HX.out.lt))
  replace HO := Lib.hid (HO.out.below hbt (Nat.le_refl _))
  replace HP := Lib.hid (HP.out.below hbt (Nat.le_refl _))
  clear hbt
  have hc1 := convW_any HO.out
  have hc2 := convW_any HP.out
  have i14 : (14 : Int) ≤ P.length := by omega
  have i12 : (P.length : Int) ≤ 1200 := by omega
  go_wp2_with (first | (refine wpList_load_g (op := ⟨some 42, _, _, _, _, _⟩) (by rfl) 30 _ rfl TX 0 rfl _ _ HX.out.range Try.underlying30 rfl (size_msg _ _ _ _) ?_) | (refine wpList_load_g (op := ⟨some 43, _, _, _, _, _⟩) (by rfl) 30 _ rfl w.heap.size 0 rfl _ _ HA.out.range Try.underlying30 rfl (size_msg _ _ _ _) ?_))
  refine (same_like HLike.out ix lx dx iv lv dv wt HXR.out HR.out HBX.out.d HM.out.d).mono ?_
  rintro e wz ⟨rfl, hb⟩
  have hc3 := convW_any (HO.out.below hb (Nat.le_refl _))
  have hc4 := convW_any (HP.out.below hb (Nat.le_refl _))
  replace HB := Lib.hid (HB.out.trans (hb.mono HB.out.size))
  clear hb
  clear hc1 hc2
  go_wp2_with fail
  go_ret
  exact ⟨rfl, HB.out⟩
end Go.Proofs.Ytembppihfcclcaa
