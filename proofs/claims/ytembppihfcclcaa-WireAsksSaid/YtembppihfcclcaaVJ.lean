/-
  Wire: the reference's part.
-/
import Derived.Test.YtembppihfcclcaaG25x
import Derived.Test.YtembppihfcclcaaG09x
import Derived.Test.YtembppihfcclcaaMU
import Derived.Deep.DeepCutAuto
namespace Go.Proofs.Ytembppihfcclcaa
set_option linter.unusedVariables false
open Go.ChangeShapes Go.WideShapes Go.ChangeAt Go.RowKit

set_option linter.unusedSimpArgs false
set_option maxRecDepth 100000 in
theorem conv_anyW {w : World} {v : Value} {bs : List Int} (h : BytesV w v bs) : (convert 28 9 v).run Try.prog w = .ok (.string (strOfNums bs)) w := by
  by_cases h0 : 0 < bs.length
  · exact conv_bytes h h0
  · obtain rfl : bs = [] := List.length_eq_zero_iff.1 (by omega)
    obtain ⟨a, cap, rfl, -⟩ := h
    cases a with
    | none => go_simp; rfl
    | some a => go_simp; rfl
section
variable {ops : Array Oper} {C : World → Prop}
theorem quiet_convW {Q : Act → Prop} {a : Act} {o : Oper} {rest : List Oper} (hw : Region.wanted o (yielded ops a.tmps) = true) (x : Operand) (ho : o.op = .convert 28 9 x) (v : Value) (hx : a.eval x = v) (s : ByteArray)
    (hc : ∀ w, C w → (convert 28 9 v).run Try.prog w = .ok (.string s) w) (h : wpQuiet Try.prog ops C Q rest (a.put o.dst (.string s))) : wpQuiet Try.prog ops C Q (o :: rest) a :=
  wpQuiet_step fun K hK => by
    rw [if_pos hw]
    refine ⟨.string s, fun w hC => ?_, hK _ h⟩
    unfold Oper.quietAt execOp
    simp only [ho, hx, Sem.run_bind, hc w hC, Result.andThen_ok, Sem.run_pure]
    exact ⟨rfl, rfl⟩
end
theorem entW_str (x : Ent) : ((strOfNums (entW x)).size : Int) = (entW x).length := by rw [strOfNums_size]
set_option maxRecDepth 100000 in
set_option maxHeartbeats 8000000 in
theorem partRef_any (M : Msg) (j : Nat) (hj : j < 11) (iv lv dv : Value) (w : World) (h : RowsV w iv lv dv M) (hb : MsgB M) (hm : MayP M) :
    Calls Try.prog 40 #[.agg (msgL M.F iv lv dv).toArray, .int .u8 (ltr j : Nat)] w fun e w' => e = .returned (.string (strOfNums (partB M j))) ∧ Below w.heap.size w w' := by
  obtain ⟨hF0, hF5, hF6, hF7, hF8, hF9, hF10, hni, hnl, hnd⟩ := hm.bd
  have hF11 := hb.f11
  have hF12 := hb.f12
  have HLog := Lib.hid hm.l
  have HBI := Lib.hid hb.b
  have HBE := Lib.hid hb.e
  have HPL := Lib.hid (partB_len hm j)
  clear hb hm
  have hRB := h.below ((Below.refl w.heap.size w).alloc (Nat.le_refl _) (Obj.cells (msgL M.F iv lv dv).toArray 30)) (Nat.le_refl _)
  obtain ⟨⟨ia, ic, rfl, hi1, hi2, -⟩, ⟨la, lc, rfl, hl1, hl2, -⟩, ⟨da, dc, rfl, hd1, hd2, -⟩⟩ := h
  have HA := Lib.hid (msgAt_new M.F (.slice ia M.ni ic) (.slice la M.nl lc) (.slice da M.d.length dc) 30 w)
  have HB := Lib.hid ((Below.refl w.heap.size w).alloc (Nat.le_refl _) (Obj.cells (msgL M.F (.slice ia M.ni ic) (.slice la M.nl lc) (.slice da M.d.length dc)).toArray 30))
  have HR := Lib.hid hRB
  unfold maxLen at hi2 hl2 hd2
  clear hRB
  rcases (by omega : j = 0 ∨ j = 1 ∨ j = 2 ∨ j = 3 ∨ j = 4 ∨ j = 5 ∨ j = 6 ∨ j = 7 ∨ j = 8 ∨ j = 9 ∨ j = 10) with rfl | rfl | rfl | rfl | rfl | rfl | rfl | rfl | rfl | rfl | rfl
  · have hl : ((ltr 0 : Nat) : Int) = 115 := rfl
    rw [hl]
    clear hl
    have c := HA.out.c5
    have hu : IntKind.u64.wrap (M.F 5) = M.F 5 := by simp [IntKind.wrap, IntKind.bits, IntKind.signed]; omega
    have HV : Hid (0 ≤ M.F 5 ∧ M.F 5 < 18446744073709551616) := Lib.hid (by omega)
    go_enter Try.func40, Try.ntmps40
    go_wp2_with fail
    refine (numW_any (M.F 5) 1 HV.out (by decide) _).mono ?_
    rintro e w2 ⟨rfl, hb2⟩
    go_wp2_with fail
    go_ret
    exact ⟨rfl, HB.out.trans (hb2.mono HB.out.size)⟩
  · have hl : ((ltr 1 : Nat) : Int) = 103 := rfl
    rw [hl]
    clear hl
    have c := HA.out.c6
    have hu : IntKind.u64.wrap (M.F 6) = M.F 6 := by simp [IntKind.wrap, IntKind.bits, IntKind.signed]; omega
    have HV : Hid (0 ≤ M.F 6 ∧ M.F 6 < 18446744073709551616) := Lib.hid (by omega)
    go_enter Try.func40, Try.ntmps40
    go_wp2_with fail
    refine (numW_any (M.F 6) 2 HV.out (by decide) _).mono ?_
    rintro e w2 ⟨rfl, hb2⟩
    go_wp2_with fail
    go_ret
    exact ⟨rfl, HB.out.trans (hb2.mono HB.out.size)⟩
  · have hl : ((ltr 2 : Nat) : Int) = 102 := rfl
    rw [hl]
    clear hl
    have c := HA.out.c7
    have hu : IntKind.u64.wrap (M.F 7) = M.F 7 := by simp [IntKind.wrap, IntKind.bits, IntKind.signed]; omega
    have HV : Hid (0 ≤ M.F 7 ∧ M.F 7 < 18446744073709551616) := Lib.hid (by omega)
    go_enter Try.func40, Try.ntmps40
    go_wp2_with fail
    refine (numW_any (M.F 7) 4 HV.out (by decide) _).mono ?_
    rintro e w2 ⟨rfl, hb2⟩
    go_wp2_with fail
    go_ret
    exact ⟨rfl, HB.out.trans (hb2.mono HB.out.size)⟩
  · have hl : ((ltr 3 : Nat) : Int) = 99 := rfl
    rw [hl]
    clear hl
    have c := HA.out.c8
    have hu : IntKind.u64.wrap (M.F 8) = M.F 8 := by simp [IntKind.wrap, IntKind.bits, IntKind.signed]; omega
    have HV : Hid (0 ≤ M.F 8 ∧ M.F 8 < 18446744073709551616) := Lib.hid (by omega)
    go_enter Try.func40, Try.ntmps40
    go_wp2_with fail
    refine (numW_any (M.F 8) 1 HV.out (by decide) _).mono ?_
    rintro e w2 ⟨rfl, hb2⟩
    go_wp2_with fail
    go_ret
    exact ⟨rfl, HB.out.trans (hb2.mono HB.out.size)⟩
  · have hl : ((ltr 4 : Nat) : Int) = 110 := rfl
    rw [hl]
    clear hl
    have c := HA.out.c9
    have hu : IntKind.u64.wrap (M.F 9) = M.F 9 := by simp [IntKind.wrap, IntKind.bits, IntKind.signed]; omega
    have HV : Hid (0 ≤ M.F 9 ∧ M.F 9 < 18446744073709551616) := Lib.hid (by omega)
    go_enter Try.func40, Try.ntmps40
    go_wp2_with fail
    refine (numW_any (M.F 9) 2 HV.out (by decide) _).mono ?_
    rintro e w2 ⟨rfl, hb2⟩
    go_wp2_with fail
    go_ret
    exact ⟨rfl, HB.out.trans (hb2.mono HB.out.size)⟩
  · have hl : ((ltr 5 : Nat) : Int) = 111 := rfl
    rw [hl]
    clear hl
    have c := HA.out.c10
    have hu : IntKind.u64.wrap (M.F 10) = M.F 10 := by simp [IntKind.wrap, IntKind.bits, IntKind.signed]; omega
    have HV : Hid (0 ≤ M.F 10 ∧ M.F 10 < 18446744073709551616) := Lib.hid (by omega)
    go_enter Try.func40, Try.ntmps40
    go_wp2_with fail
    refine (numW_any (M.F 10) 2 HV.out (by decide) _).mono ?_
    rintro e w2 ⟨rfl, hb2⟩
    go_wp2_with fail
    go_ret
    exact ⟨rfl, HB.out.trans (hb2.mono HB.out.size)⟩
  · have hl : ((ltr 6 : Nat) : Int) = 98 := rfl
    rw [hl]
    clear hl
    have c := HA.out.c11
    have hu : IntKind.u64.wrap (M.F 11) = M.F 11 := by simp [IntKind.wrap, IntKind.bits, IntKind.signed]; omega
    have HV : Hid (0 ≤ M.F 11 ∧ M.F 11 < 18446744073709551616) := Lib.hid (by omega)
    go_enter Try.func40, Try.ntmps40
    go_wp2_with fail
    refine (numW_any (M.F 11) 4 HV.out (by decide) _).mono ?_
    rintro e w2 ⟨rfl, hb2⟩
    go_wp2_with fail
    go_ret
    exact ⟨rfl, HB.out.trans (hb2.mono HB.out.size)⟩
  · have hl : ((ltr 7 : Nat) : Int) = 109 := rfl
    rw [hl]
    clear hl
    have c := HA.out.c12
    have hu : IntKind.u64.wrap (M.F 12) = M.F 12 := by simp [IntKind.wrap, IntKind.bits, IntKind.signed]; omega
    have HV : Hid (0 ≤ M.F 12 ∧ M.F 12 < 18446744073709551616) := Lib.hid (by omega)
    go_enter Try.func40, Try.ntmps40
    go_wp2_with fail
    refine (numW_any (M.F 12) 8 HV.out (by decide) _).mono ?_
    rintro e w2 ⟨rfl, hb2⟩
    go_wp2_with fail
    go_ret
    exact ⟨rfl, HB.out.trans (hb2.mono HB.out.size)⟩
  · have hl : ((ltr 8 : Nat) : Int) = 105 := rfl
    rw [hl]
    clear hl
    have c13 := HA.out.c13
    have hu : IntKind.u64.wrap (M.ni : Int) = (M.ni : Int) := by simp [IntKind.wrap, IntKind.bits, IntKind.signed]; omega
    have HV : Hid (0 ≤ (M.ni : Int) ∧ (M.ni : Int) < 18446744073709551616) := Lib.hid (by omega)
    have HEvI := Lib.hid HR.out.i
    go_enter Try.func40, Try.ntmps40
    go_wp2_with fail
    generalize w.alloc (Obj.cells (msgL M.F (.slice ia M.ni ic) (.slice la M.nl lc) (.slice da M.d.length dc)).toArray 30) = w1 at *
    refine (numW_any (M.ni : Int) 1 HV.out (by decide) _).mono ?_
    rintro e w2 ⟨rfl, hb2⟩
    replace HA := Lib.hid (HA.out.block (hb2.block _ HA.out.lt))
    replace HB := Lib.hid (HB.out.trans (hb2.mono HB.out.size))
    replace HEvI := Lib.hid (HEvI.out.below hb2 (Nat.le_refl _))
    clear hb2 c13 HR hu HV HLog HBE
    have hA0 := HA.out.lt
    go_wp2_with fail
    go_loopw [5, 6] (fun s i wr => ∃ k : Nat, k ≤ M.ni ∧ i = .int .i64 k ∧ s = .string (strOfNums (leB (M.ni : Int) 1 ++ inpsW M.I k)) ∧ Below w2.heap.size w2 wr) (fun _ i _ => M.ni - (intOf i).toNat)
    case atStart => exact ⟨0, Nat.zero_le _, rfl, by unfold inpsW; rw [List.append_nil], Below.refl _ _⟩
    case round =>
      obtain ⟨k, hk, rfl, rfl, hW⟩ := hrel
      have HW := Lib.hid hW
      have c13 := (HA.out.block (hW.block _ hA0)).c13
      by_cases hlt : k < M.ni
      · obtain ⟨a0, c0, e0, -, -, hev⟩ := HEvI.out
        injection e0 with e1 e2 e3
        subst e1
        obtain ⟨b, o, rfl, hbl, hin0⟩ := hev (by omega)
        have hin := hin0.block (hW.block b hbl)
        have d0 := hin.x k hlt
        have d1 := hin.y k hlt
        have d2 := hin.z k hlt
        have hki : (k : Int) < (M.ni : Int) := by omega
        have HZ := Lib.hid (HBI.out k hlt)
        have hcat := run_cat (leB (M.ni : Int) 1 ++ inpsW M.I k) (inp3 M.I k) (by rw [List.length_append, leB_len, inpsW_len]; show _ + 3 ≤ _; omega)
        have HN : Hid ((leB (M.ni : Int) 1 ++ inpsW M.I k) ++ inp3 M.I k = leB (M.ni : Int) 1 ++ inpsW M.I (k + 1)) := Lib.hid (List.append_assoc ..)
        rw [HN.out] at hcat
        unfold inp3 at hcat
        clear hev hin0 hin hW e2 e3 HN
        generalize M.I (k * 3) = x at *
        generalize M.I (k * 3 + 1) = y at *
        generalize M.I (k * 3 + 2) = z at *
        generalize leB (M.ni : Int) 1 ++ inpsW M.I k = S at *
        go_wp2_with fail
        refine (putInput_any x y z HZ.out _).mono ?_
        rintro e w5 ⟨rfl, hb5⟩
        have HW2 := Lib.hid (HW.out.trans (hb5.mono HW.out.size))
        clear hb5 d0 d1 d2 c13
        go_wp2_with fail
        exact ⟨⟨k + 1, by omega, by go_num, rfl, HW2.out⟩, by simp [intOf]; omega⟩
      · obtain rfl : k = M.ni := by omega
        go_wp2_with fail
        go_ret
        exact ⟨rfl, HB.out.trans (hW.mono HB.out.size)⟩
  · have hl : ((ltr 9 : Nat) : Int) = 108 := rfl
    rw [hl]
    clear hl
    have c14 := HA.out.c14
    have hu : IntKind.u64.wrap (M.nl : Int) = (M.nl : Int) := by simp [IntKind.wrap, IntKind.bits, IntKind.signed]; omega
    have HV : Hid (0 ≤ (M.nl : Int) ∧ (M.nl : Int) < 18446744073709551616) := Lib.hid (by omega)
    have HEvL := Lib.hid HR.out.l
    go_enter Try.func40, Try.ntmps40
    go_wp2_with fail
    generalize w.alloc (Obj.cells (msgL M.F (.slice ia M.ni ic) (.slice la M.nl lc) (.slice da M.d.length dc)).toArray 30) = w1 at *
    refine (numW_any (M.nl : Int) 1 HV.out (by decide) _).mono ?_
    rintro e w2 ⟨rfl, hb2⟩
    replace HA := Lib.hid (HA.out.block (hb2.block _ HA.out.lt))
    replace HB := Lib.hid (HB.out.trans (hb2.mono HB.out.size))
    replace HEvL := Lib.hid (HEvL.out.below hb2 (Nat.le_refl _))
    clear hb2 c14 HR hu HV
    have hA0 := HA.out.lt
    go_wp2_with fail
    go_loopw [7, 8] (fun s i wr => ∃ k : Nat, k ≤ M.nl ∧ i = .int .i64 k ∧ s = .string (strOfNums (leB (M.nl : Int) 1 ++ logW M.D k)) ∧ Below w2.heap.size w2 wr) (fun _ i _ => M.nl - (intOf i).toNat)
    case atStart => exact ⟨0, Nat.zero_le _, rfl, by unfold logW; rw [List.append_nil], Below.refl _ _⟩
    case round =>
      obtain ⟨k, hk, rfl, rfl, hW⟩ := hrel
      have HW := Lib.hid hW
      have c14 := (HA.out.block (hW.block _ hA0)).c14
      by_cases hlt : k < M.nl
      · obtain ⟨a0, c0, e0, -, -, hev⟩ := HEvL.out
        injection e0 with e1 e2 e3
        subst e1
        obtain ⟨b, o, rfl, hbl, hin0⟩ := hev (by omega)
        obtain ⟨sv, he0, hs0⟩ := (hin0.below hW (Nat.le_refl _)) k hlt
        have hki : (k : Int) < (M.nl : Int) := by omega
        have HEB := Lib.hid (HBE.out k hlt)
        have hmd := (logOk_get _ HLog.out k hlt).1
        have hel := entW_len hmd
        have HMD := Lib.hid hmd
        have hsz := entW_str (M.D k)
        have hll := logW_len HLog.out k (by omega)
        have hc1 := run_cat (leB (M.nl : Int) 1 ++ logW M.D k) (leB ((entW (M.D k)).length : Int) 2) (by rw [List.length_append, leB_len, leB_len]; omega)
        have hc2 := run_cat ((leB (M.nl : Int) 1 ++ logW M.D k) ++ leB ((entW (M.D k)).length : Int) 2) (entW (M.D k)) (by rw [List.length_append, List.length_append, leB_len, leB_len]; omega)
        have HN : Hid (((leB (M.nl : Int) 1 ++ logW M.D k) ++ leB ((entW (M.D k)).length : Int) 2) ++ entW (M.D k) = leB (M.nl : Int) 1 ++ logW M.D (k + 1)) := Lib.hid (by rw [logW]; simp only [List.append_assoc])
        rw [HN.out] at hc2
        have hu2 : IntKind.u64.wrap ((entW (M.D k)).length : Int) = ((entW (M.D k)).length : Int) := by simp [IntKind.wrap, IntKind.bits, IntKind.signed]; omega
        have HV2 : Hid (0 ≤ ((entW (M.D k)).length : Int) ∧ ((entW (M.D k)).length : Int) < 18446744073709551616) := Lib.hid (by omega)
        have HE := Lib.hid he0
        have HS := Lib.hid hs0
        have HPut : Hid (∀ w, EvsV w sv (M.D k).n (M.D k).E → Calls Try.prog 56 #[.agg (entL (M.D k).fr sv (M.D k).I).toArray] w fun e w' => e = .returned (.string (strOfNums (entW (M.D k)))) ∧ Below w.heap.size w w') := Lib.hid (fun w hs => putRef_any (M.D k).fr sv (M.D k).n (M.D k).E (M.D k).I w hs HEB.out HMD.out)
        clear hev hin0 he0 hs0 hW e2 e3 HN hmd hel hll HEB HMD
        generalize leB (M.nl : Int) 1 ++ logW M.D k = S at *
        generalize entW (M.D k) = ew at *
        generalize S ++ leB (ew.length : Int) 2 = S2 at *
        go_wp2_with (refine wpList_load_g (by rfl) 37 _ rfl b (o + k * 26) rfl _ _ HE.out.range Try.underlying37 rfl (size_ent _ _ _) ?_)
        refine (HPut.out _ HS.out).mono ?_
        rintro e w5 ⟨rfl, hb5⟩
        have HW2 := Lib.hid (HW.out.trans (hb5.mono HW.out.size))
        clear hb5 c14 HE HS HPut
        go_wp2_with fail
        refine (numW_any (ew.length : Int) 2 HV2.out (by decide) _).mono ?_
        rintro e w6 ⟨rfl, hb6⟩
        replace HW2 := Lib.hid (HW2.out.trans (hb6.mono HW2.out.size))
        clear hb6
        go_wp2_with fail
        exact ⟨⟨k + 1, by omega, by go_num, rfl, HW2.out⟩, by simp [intOf]; omega⟩
      · obtain rfl : k = M.nl := by omega
        go_wp2_with fail
        go_ret
        exact ⟨rfl, HB.out.trans (hW.mono HB.out.size)⟩
  · have hl : ((ltr 10 : Nat) : Int) = 100 := rfl
    rw [hl]
    clear hl
    have HVd := Lib.hid HR.out.d
    have hu : IntKind.u64.wrap (M.d.length : Int) = (M.d.length : Int) := by simp [IntKind.wrap, IntKind.bits, IntKind.signed]; omega
    have HV : Hid (0 ≤ (M.d.length : Int) ∧ (M.d.length : Int) < 18446744073709551616) := Lib.hid (by omega)
    have hcat := run_cat (leB (M.d.length : Int) 1) M.d (by rw [leB_len]; omega)
    go_enter Try.func40, Try.ntmps40
    go_wp2_with fail
    generalize w.alloc (Obj.cells (msgL M.F (.slice ia M.ni ic) (.slice la M.nl lc) (.slice da M.d.length dc)).toArray 30) = w1 at *
    have z15 := cell_regrown HA.out.c15
    have HC := Lib.hid (fun d os => conv_anyW (HVd.out.below (below_regrown w1 d os) (Nat.le_refl _)))
    refine wp_region_quiet_below (by kernel_rfl) (by kernel_rfl) ?_
    iterate 5 (go_big_quiet_step (exact Calls.regrown_of (numW_any (M.d.length : Int) 1 HV.out (by decide) _)))
    iterate 2 (go_big_quiet_step (fail))
    refine quiet_convW (by rfl) _ rfl _ rfl _ (by rintro w' ⟨p, rfl⟩; exact HC.out p.d p.os) ?_
    simp only [Act.put, List.setIfInBounds_toArray, List.set_cons_zero, List.set_cons_succ]
    repeat (go_big_quiet_step (fail))
    refine wpQuiet_nil ?_
    intro w10 hw'
    obtain ⟨⟨nq, osq⟩, hw3⟩ := hw'
    have bq := below_regrown w1 nq osq
    rw [← hw3] at bq
    have HBn := Lib.hid (HB.out.trans (bq.mono HB.out.size))
    clear hw3 bq HC z15
    go_wp2_with fail
    go_ret
    exact ⟨rfl, HBn.out⟩
end Go.Proofs.Ytembppihfcclcaa
