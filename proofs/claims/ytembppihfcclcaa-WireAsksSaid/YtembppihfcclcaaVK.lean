/-
  Wire: the reference's Put.
-/
import Derived.Test.YtembppihfcclcaaVJ
import Derived.Test.YtembppihfcclcaaVC
import Derived.Deep.DeepCutAuto
namespace Go.Proofs.Ytembppihfcclcaa
set_option linter.unusedVariables false
open Go.ChangeShapes Go.WideShapes Go.ChangeAt Go.RowKit

set_option linter.unusedSimpArgs false
section
variable {ops : Array Oper} {C : World → Prop}
theorem quiet_load_msgW {Q : Act → Prop} {a : Act} {o : Oper} {rest : List Oper} (hw : Region.wanted o (yielded ops a.tmps) = true) (x : Operand) (ho : o.op = .load 30 x) (b of : Nat) (hx : a.eval x = .pointer (some ⟨b, of, none⟩)) (cs : List Value)
    (hc : ∀ w, C w → w.rangeAt b of cs) (hi : (Try.prog.info? 30).map (·.size) = some cs.length) (h : wpQuiet Try.prog ops C Q rest (a.put o.dst (.agg cs.toArray))) : wpQuiet Try.prog ops C Q (o :: rest) a :=
  wpQuiet_step fun K hK => by
    rw [if_pos hw]
    refine ⟨.agg cs.toArray, fun w hC => ?_, hK _ h⟩
    unfold Oper.quietAt execOp
    simp only [ho, hx, Instr.loadAt, Instr.sureAddr, Sem.run_bind, Sem.run_pure, Result.andThen_ok, run_loadVar_mid (P := Try.prog) w b of 30 cs _ (hc w hC) Try.underlying30 rfl hi]
    exact ⟨rfl, rfl⟩
end
theorem pkL_ltr (k : Int) (n : Nat) (hn : n < (pkL k).length) : jL ((pkL k).getD n 0) < 11 ∧ ltr (jL ((pkL k).getD n 0)) = (pkL k).getD n 0 := by
  have h := pkL_all (fun k => (pkL k).all (fun x => decide (jL x < 11) && (ltr (jL x) == x))) (fun k hk => by simp only [hk]; rfl) (by kernel_rfl) k
  have hx : (pkL k).getD n 0 = (pkL k)[n] := by rw [List.getD_eq_getElem?_getD, List.getElem?_eq_getElem hn]; rfl
  have := List.all_eq_true.1 h _ (List.getElem_mem hn)
  rw [Bool.and_eq_true, decide_eq_true_eq, beq_iff_eq] at this
  rw [hx]
  exact this
/-- The parts of the first letters. -/
def joinN (M : Msg) (n : Nat) : List Int := joinL M (((pkL (M.F 0)).take n).map jL)
theorem joinN_next (M : Msg) (n : Nat) (hn : n < (pkL (M.F 0)).length) : joinN M (n + 1) = joinN M n ++ partB M (jL ((pkL (M.F 0)).getD n 0)) := by
  have hx : (pkL (M.F 0)).getD n 0 = (pkL (M.F 0))[n] := by rw [List.getD_eq_getElem?_getD, List.getElem?_eq_getElem hn]; rfl
  unfold joinN
  rw [List.take_succ_eq_append_getElem hn, List.map_append, joinL_app, hx]
  congr 1
  simp [joinL]
theorem joinN_len {M : Msg} (h : MayP M) : ∀ n, n ≤ (pkL (M.F 0)).length → (joinN M n).length ≤ 4000 * n
  | 0, _ => by unfold joinN; simp [joinL]
  | n + 1, hn => by
    have := joinN_len h n (by omega)
    have := partB_len h (jL ((pkL (M.F 0)).getD n 0))
    rw [joinN_next M n (by omega), List.length_append]
    omega
theorem headW_len (M : Msg) : (headW M).length = 10 := by
  unfold headW
  simp only [List.length_append, leB_len]
set_option maxRecDepth 100000 in
set_option maxHeartbeats 8000000 in
theorem putRefM_any (M : Msg) (iv lv dv : Value) (w : World) (h : RowsV w iv lv dv M) (hb : MsgB M) (hm : MayP M) :
    Calls Try.prog 17 #[.agg (msgL M.F iv lv dv).toArray] w fun e w' => e = .returned (.string (strOfNums (putM M))) ∧ Below w.heap.size w w' := by
  obtain ⟨hF0, -, -, -, -, -, -, -, -, -⟩ := hm.bd
  have hF1 := hm.f1
  have hF2 := hb.f2
  have hF3 := hb.f3
  have hF4 := hb.f4
  have HMB := Lib.hid hb
  have HMP := Lib.hid hm
  have hl5 := (pkL_bd (M.F 0)).1
  have HBy := Lib.hid (bodyM_by hb)
  clear hb hm
  have HR := Lib.hid (h.below ((Below.refl w.heap.size w).alloc (Nat.le_refl _) (Obj.cells (msgL M.F iv lv dv).toArray 30)) (Nat.le_refl _))
  have HA := Lib.hid (msgAt_new M.F iv lv dv 30 w)
  have HB := Lib.hid ((Below.refl w.heap.size w).alloc (Nat.le_refl _) (Obj.cells (msgL M.F iv lv dv).toArray 30))
  go_enter Try.func17, Try.ntmps17
  go_wp2_with fail
  generalize w.alloc (Obj.cells (msgL M.F iv lv dv).toArray 30) = w1 at *
  have z0 := cell_regrown HA.out.c0
  have z1 := cell_regrown HA.out.c1
  have z2 := cell_regrown HA.out.c2
  have z3 := cell_regrown HA.out.c3
  have z4 := cell_regrown HA.out.c4
  have u0 : IntKind.u64.wrap (M.F 0) = M.F 0 := by simp [IntKind.wrap, IntKind.bits, IntKind.signed]; omega
  have u1 : IntKind.u64.wrap (M.F 1) = M.F 1 := by simp [IntKind.wrap, IntKind.bits, IntKind.signed]; omega
  have u2 : IntKind.u64.wrap (M.F 2) = M.F 2 := by simp [IntKind.wrap, IntKind.bits, IntKind.signed]; omega
  have u3 : IntKind.u64.wrap (M.F 3) = M.F 3 := by simp [IntKind.wrap, IntKind.bits, IntKind.signed]; omega
  have u4 : IntKind.u64.wrap (M.F 4) = M.F 4 := by simp [IntKind.wrap, IntKind.bits, IntKind.signed]; omega
  have V0 : Hid (0 ≤ M.F 0 ∧ M.F 0 < 18446744073709551616) := Lib.hid (by omega)
  have V1 : Hid (0 ≤ M.F 1 ∧ M.F 1 < 18446744073709551616) := Lib.hid (by omega)
  have V2 : Hid (0 ≤ M.F 2 ∧ M.F 2 < 18446744073709551616) := Lib.hid (by omega)
  have V3 : Hid (0 ≤ M.F 3 ∧ M.F 3 < 18446744073709551616) := Lib.hid (by omega)
  have V4 : Hid (0 ≤ M.F 4 ∧ M.F 4 < 18446744073709551616) := Lib.hid (by omega)
  have HW0 := Lib.hid (fun w => numW_any (M.F 0) 1 V0.out (by decide) w)
  have HW1 := Lib.hid (fun w => numW_any (M.F 1) 1 V1.out (by decide) w)
  have HW2 := Lib.hid (fun w => numW_any (M.F 2) 2 V2.out (by decide) w)
  have HW3 := Lib.hid (fun w => numW_any (M.F 3) 2 V3.out (by decide) w)
  have HW4 := Lib.hid (fun w => numW_any (M.F 4) 4 V4.out (by decide) w)
  have HHd : Hid (headW M = leB (M.F 0) 1 ++ leB (M.F 1) 1 ++ leB (M.F 2) 2 ++ leB (M.F 3) 2 ++ leB (M.F 4) 4) := Lib.hid rfl
  have b0 := leB_len (M.F 0) 1
  have b1 := leB_len (M.F 1) 1
  have b2 := leB_len (M.F 2) 2
  have b3 := leB_len (M.F 3) 2
  have b4 := leB_len (M.F 4) 4
  generalize leB (M.F 0) 1 = l0 at *
  generalize leB (M.F 1) 1 = l1 at *
  generalize leB (M.F 2) 2 = l2 at *
  generalize leB (M.F 3) 2 = l3 at *
  generalize leB (M.F 4) 4 = l4 at *
  obtain ⟨S1, h1⟩ : ∃ S1, S1 = l0 ++ l1 := ⟨_, rfl⟩
  obtain ⟨S2, h2⟩ : ∃ S2, S2 = S1 ++ l2 := ⟨_, rfl⟩
  obtain ⟨S3, h3⟩ : ∃ S3, S3 = S2 ++ l3 := ⟨_, rfl⟩
  have m1 : S1.length = 2 := by rw [h1, List.length_append, b0, b1]
  have m2 : S2.length = 4 := by rw [h2, List.length_append, m1, b2]
  have m3 : S3.length = 6 := by rw [h3, List.length_append, m2, b3]
  have t1 := run_cat l0 l1 (by omega)
  rw [← h1] at t1
  have t2 := run_cat S1 l2 (by omega)
  rw [← h2] at t2
  have t3 := run_cat S2 l3 (by omega)
  rw [← h3] at t3
  have t4 := run_cat S3 l4 (by omega)
  rw [show S3 ++ l4 = headW M by rw [HHd.out, h3, h2, h1]] at t4
  clear h1 h2 h3 m1 m2 m3 b0 b1 b2 b3 b4 HHd V0 V1 V2 V3 V4
  refine wp_region_quiet_below (by kernel_rfl) (by kernel_rfl) ?_
  iterate 4 (go_big_quiet_step (exact Calls.regrown_of (HW0.out _)))
  iterate 4 (go_big_quiet_step (exact Calls.regrown_of (HW1.out _)))
  go_big_quiet_step (fail)
  iterate 4 (go_big_quiet_step (exact Calls.regrown_of (HW2.out _)))
  go_big_quiet_step (fail)
  iterate 4 (go_big_quiet_step (exact Calls.regrown_of (HW3.out _)))
  go_big_quiet_step (fail)
  iterate 4 (go_big_quiet_step (exact Calls.regrown_of (HW4.out _)))
  repeat (go_big_quiet_step (fail))
  refine wpQuiet_nil ?_
  intro w10 hw'
  obtain ⟨⟨nq, osq⟩, hw3⟩ := hw'
  have bq := below_regrown w1 nq osq
  rw [← hw3] at bq
  replace HA := Lib.hid (HA.out.block (bq.block _ HA.out.lt))
  replace HB := Lib.hid (HB.out.trans (bq.mono HB.out.size))
  replace HR := Lib.hid (HR.out.below bq (Nat.le_refl _))
  clear hw3 bq z0 z1 z2 z3 z4 u0 u1 u2 u3 u4 HW0 HW1 HW2 HW3 HW4 t1 t2 t3 t4 hF0 hF1 hF2 hF3 hF4
  have c0 := HA.out.c0
  go_wp2_with fail
  refine (has_any (M.F 0) _).mono ?_
  rintro e w11 ⟨rfl, rfl⟩
  have hsz : ((pkS (M.F 0)).size : Int) = (pkL (M.F 0)).length := by rw [pkS_size]
  have hA0 := HA.out.lt
  clear c0
  go_wp2_with fail
  go_loopw [3, 5] (fun s i wr => ∃ n : Nat, n ≤ (pkL (M.F 0)).length ∧ i = .int .i64 n ∧ s = .string (strOfNums (headW M ++ joinN M n)) ∧ Below w11.heap.size w11 wr) (fun _ i _ => (pkL (M.F 0)).length - (intOf i).toNat)
  case atStart => exact ⟨0, Nat.zero_le _, rfl, by rw [show joinN M 0 = [] from rfl, List.append_nil], Below.refl _ _⟩
  case round =>
    obtain ⟨n, hn, rfl, rfl, hW⟩ := hrel
    have HW := Lib.hid hW
    by_cases hlt : n < (pkL (M.F 0)).length
    · have hki : (n : Int) < ((pkS (M.F 0)).size : Int) := by omega
      have HGet := Lib.hid (pkS_get (M.F 0) n hlt)
      have HL := Lib.hid (pkL_ltr (M.F 0) n hlt)
      have HN := Lib.hid (joinN_next M n hlt)
      have hpl := partB_len HMP.out (jL ((pkL (M.F 0)).getD n 0))
      have hjl := joinN_len HMP.out n hn
      have hhl := headW_len M
      generalize hj : jL ((pkL (M.F 0)).getD n 0) = j at *
      have HCM := Lib.hid (fun d os => (HA.out.block (hW.block _ hA0)).block ((below_regrown wr d os).block _ (Nat.lt_of_lt_of_le hA0 hW.size)))
      have HPart : Hid (∀ h d os, Calls Try.prog 40 #[.agg (msgL M.F iv lv dv).toArray, .int .u8 (((pkS (M.F 0))[n]'h).toNat : Nat)] (Go.Sort.grow (redrawn wr d) os) fun e w' => e = .returned (.string (strOfNums (partB M j))) ∧ Below (Go.Sort.grow (redrawn wr d) os).heap.size (Go.Sort.grow (redrawn wr d) os) w') := Lib.hid (fun h d os => by
        rw [HGet.out h, ← HL.out.2]
        exact partRef_any M j HL.out.1 iv lv dv _ ((HR.out.below hW (Nat.le_refl _)).below (below_regrown wr d os) (Nat.le_refl _)) HMB.out HMP.out)
      have hcat := run_cat (headW M ++ joinN M n) (partB M j) (by rw [List.length_append]; omega)
      rw [List.append_assoc, ← HN.out] at hcat
      clear hpl hjl hhl hj HGet HL HN hW
      go_wp2_with fail
      refine wp_region_quiet_below (by kernel_rfl) (by kernel_rfl) ?_
      go_big_quiet_step (fail)
      refine quiet_load_msgW (by rfl) _ rfl w.heap.size 0 rfl _ (by rintro w' ⟨p, rfl⟩; exact (HCM.out p.d p.os).range) (size_msg _ _ _ _) ?_
      simp only [Act.put, List.setIfInBounds_toArray, List.set_cons_zero, List.set_cons_succ]
      iterate 3 (go_big_quiet_step (fail))
      go_big_quiet_step (exact Calls.regrown_of (HPart.out _ _ _))
      repeat (go_big_quiet_step (fail))
      refine wpQuiet_nil ?_
      intro w12 hw'
      obtain ⟨⟨nq, osq⟩, hw3⟩ := hw'
      have bq := below_regrown wr nq osq
      rw [← hw3] at bq
      have HWn := Lib.hid (HW.out.trans (bq.mono HW.out.size))
      clear hw3 bq HCM HPart hcat
      go_wp2_with fail
      exact ⟨⟨n + 1, by omega, by go_num, rfl, HWn.out⟩, by simp [intOf]; omega⟩
    · obtain rfl : n = (pkL (M.F 0)).length := by omega
      have hjl := joinN_len HMP.out _ (Nat.le_refl _)
      have hhl := headW_len M
      have HJ : Hid (headW M ++ joinN M (pkL (M.F 0)).length = bodyM M) := Lib.hid (by rw [body_join HMP.out]; unfold joinN; rw [List.take_length])
      have hbl : (bodyM M).length ≤ 100000 := by rw [← HJ.out, List.length_append]; omega
      rw [HJ.out]
      have hcrc := crc_lt (bodyM M) HBy.out (bodyM M).length
      have hu : IntKind.u64.wrap ((crc (bodyM M) (bodyM M).length : Nat) : Int) = ((crc (bodyM M) (bodyM M).length : Nat) : Int) := by simp [IntKind.wrap, IntKind.bits, IntKind.signed]; omega
      have HV : Hid (0 ≤ ((crc (bodyM M) (bodyM M).length : Nat) : Int) ∧ ((crc (bodyM M) (bodyM M).length : Nat) : Int) < 18446744073709551616) := Lib.hid (by omega)
      have hcat := run_cat (leB ((crc (bodyM M) (bodyM M).length : Nat) : Int) 4) (bodyM M) (by rw [leB_len]; omega)
      rw [← putM_eq] at hcat
      have HCh := Lib.hid (fun w => checkRef_any (bodyM M) w HBy.out (by omega))
      clear hjl hhl HJ hbl hn hlt
      generalize ((crc (bodyM M) (bodyM M).length : Nat) : Int) = cc at *
      generalize bodyM M = bm at *
      go_wp2_with fail
      refine (HCh.out _).mono ?_
      rintro e w12 ⟨rfl, hw12⟩
      go_wp2_with fail
      refine (numW_any cc 4 HV.out (by decide) _).mono ?_
      rintro e w13 ⟨rfl, hb13⟩
      try rw [hw12] at hb13
      have HBn := Lib.hid (HB.out.trans ((HW.out.trans (hb13.mono HW.out.size)).mono HB.out.size))
      clear hb13
      go_wp2_with fail
      go_ret
      exact ⟨rfl, HBn.out⟩
end Go.Proofs.Ytembppihfcclcaa
