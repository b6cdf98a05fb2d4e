/-
  Wire: told.
-/
import Derived.Test.YtembppihfcclcaaMT
import Derived.Test.YtembppihfcclcaaMV
namespace Go.Proofs.Ytembppihfcclcaa
set_option linter.unusedVariables false
open Go.ChangeShapes Go.WideShapes Go.ChangeAt Go.RowKit

set_option linter.unusedSimpArgs false
theorem BytesAt.mid {w : World} {b o : Nat} {bs : List Int} (h : BytesAt w b o bs) (k n : Nat) (hk : k + n ≤ bs.length) : BytesAt w b (o + k) ((bs.drop k).take n) := by
  intro j hj
  rw [List.length_take, List.length_drop] at hj
  have := h (k + j) (by omega)
  rw [show o + k + j = o + (k + j) by omega, this]
  congr 2
  rw [List.getD_eq_getElem?_getD, List.getD_eq_getElem?_getD, List.getElem?_take, if_pos (by omega), List.getElem?_drop]
def tF : Nat → Int := fun k => if k = 0 then 14 else if k = 1 then 3 else if k = 2 then 258 else 0
def nE : Ent := ⟨0, 0, fun _ _ => 0, fun _ => 0⟩
/-- A message of numbers only. -/
def numM (F : Nat → Int) : Msg := ⟨F, 0, fun _ => 0, 0, fun _ => nE, []⟩
theorem rows_nil (w : World) (F : Nat → Int) : RowsV w (.slice none 0 0) (.slice none 0 0) (.slice none 0 0) (numM F) :=
  ⟨⟨none, 0, rfl, Nat.le_refl _, Nat.zero_le _, fun h => absurd h (by show ¬ 0 < 0; omega)⟩, ⟨none, 0, rfl, Nat.le_refl _, Nat.zero_le _, fun h => absurd h (by show ¬ 0 < 0; omega)⟩, ⟨none, 0, rfl, Nat.le_refl _, Nat.zero_le _, fun h => absurd h (by show ¬ 0 < 0; omega)⟩⟩
theorem byteL_nil : ByteL [] := fun i => by unfold zz; simp
theorem numM_b {F : Nat → Int} (h2 : 0 ≤ F 2 ∧ F 2 < 65536) (h3 : 0 ≤ F 3 ∧ F 3 < 65536) (h4 : 0 ≤ F 4 ∧ F 4 < 4294967296) (h11 : 0 ≤ F 11 ∧ F 11 < 4294967296) (h12 : 0 ≤ F 12 ∧ F 12 < 18446744073709551616) : MsgB (numM F) :=
  ⟨h2, h3, h4, h11, h12, fun i hi => absurd hi (Nat.not_lt_zero _), fun i hi => absurd hi (Nat.not_lt_zero _), fun i hi => absurd hi (Nat.not_lt_zero _), byteL_nil⟩
def tM : Msg := numM tF
theorem tM_may : mayM tM = true := by kernel_rfl
theorem zM_no : mayM (numM zF) = false := by kernel_rfl
theorem tM_body : bodyM tM = [14, 3, 2, 1, 0, 0, 0, 0, 0, 0] := by kernel_rfl
theorem tM_b : MsgB tM := numM_b ⟨by decide, by decide⟩ ⟨by decide, by decide⟩ ⟨by decide, by decide⟩ ⟨by decide, by decide⟩ ⟨by decide, by decide⟩
theorem tM_len : (putM tM).length = 14 := by rw [putM_eq, List.length_append, leB_len, tM_body]; rfl
theorem tM_mid : ((putM tM).drop 4).take 4 = [14, 3, 2, 1] := by rw [(ok_put tM_may tM_b (by rw [tM_len]; omega)).2.2, tM_body]; rfl
theorem tM_like : MLike (prsM (bodyM tM)) tM := (back ((mayM_iff tM).1 tM_may) tM_b).2
theorem no_sum_nil : ¬ SumOk [] := fun h => by have := h.1; simp at this
theorem bytesV_nil (w : World) : BytesV w (.slice none 0 0) [] := ⟨none, 0, rfl, Nat.le_refl _, Nat.zero_le _, fun h => absurd h (by show ¬ 0 < 0; omega)⟩
theorem build_tM (w : World) : (Instr.build 30 #[(0, .int .i64 14), (1, .int .i64 3), (2, .int .u16 258)]).run Try.prog w = .ok (.agg (msgL tM.F (.slice none 0 0) (.slice none 0 0) (.slice none 0 0)).toArray) w := by kernel_rfl
theorem build_nM (w : World) : (Instr.build 30 #[]).run Try.prog w = .ok (.agg (msgL (numM zF).F (.slice none 0 0) (.slice none 0 0) (.slice none 0 0)).toArray) w := by kernel_rfl
/-- A message built of constants or slots, as a step of the walk. -/
theorem wpList_build_gen {W : World} {ops : Array Oper} {rest : List Oper} {o : Oper} {a : Act} {Q : Exit → Act → World → Prop} (args : Array (Nat × Operand)) (vals : Array (Nat × Value)) (L : List Value) (hg : Region.wanted o (yielded ops a.tmps) = true) (hop : o.op = Op.build 30 args)
    (he : (Array.map (fun x => (x.fst, a.eval x.snd)) args : Array (Nat × Value)) = vals) (hb : (Instr.build 30 vals).run Try.prog W = .ok (.agg L.toArray) W)
    (hK : wpList Try.prog ops Q rest (a.put o.dst (.agg L.toArray)) W) : wpList Try.prog ops Q (o :: rest) a W := by
  refine wpList_run hg ?_ hK
  simp only [execOp, hop]
  rw [he, Sem.run_bind, hb]
  rfl
set_option maxRecDepth 100000 in
set_option maxHeartbeats 8000000 in
theorem told_law (w : World) : Calls Try.prog 12 #[] w fun e w' => e = .returned (.bool true) ∧ Below w.heap.size w w' := by
  have HA := Lib.hid (msgAt_new tM.F (.slice none 0 0) (.slice none 0 0) (.slice none 0 0) 30 w)
  have HB := Lib.hid ((Below.refl w.heap.size w).alloc (Nat.le_refl _) (Obj.cells (msgL tM.F (.slice none 0 0) (.slice none 0 0) (.slice none 0 0)).toArray 30))
  go_enter Try.func12, Try.ntmps12
  go_wp2_with (first | (refine wpList_build_gen (o := ⟨some 10, _, _, _, _, _⟩) _ _ (msgL tM.F (.slice none 0 0) (.slice none 0 0) (.slice none 0 0)) (by rfl) rfl rfl (build_tM _) ?_) | (refine wpList_store_msg (op := ⟨none, Op.store 30 (.tmp 1) (.tmp 10), _, _, _, _⟩) rfl (.tmp 1) (.tmp 10) rfl tM.F (.slice none 0 0) (.slice none 0 0) (.slice none 0 0) (nil_one _) w w.heap.size rfl rfl rfl ?_) | (refine wpList_load_g (op := ⟨some 12, _, _, _, _, _⟩) (by rfl) 30 _ rfl w.heap.size 0 rfl _ _ HA.out.range Try.underlying30 rfl (size_msg _ _ _ _) ?_))
  generalize w.alloc (Obj.cells (msgL tM.F (.slice none 0 0) (.slice none 0 0) (.slice none 0 0)).toArray 30) = w1 at *
  refine (putM_yes tM _ _ _ w1 (rows_nil w1 tF) tM_b tM_may).mono ?_
  rintro e w2 ⟨hp, hb2⟩
  rcases hp with ⟨hl, -⟩ | ⟨-, v, rfl, hO⟩
  · rw [tM_len] at hl; omega
  have hT := HA.out.lt
  replace HA := Lib.hid (HA.out.block (hb2.block _ HA.out.lt))
  replace HB := Lib.hid (HB.out.trans (hb2.mono HB.out.size))
  obtain ⟨g, cap, rfl, hg1, hg2, hc1, hc2⟩ := hO.form (by rw [tM_len]; omega)
  have HV := Lib.hid hO.bytes0
  rw [tM_len] at HV hc1
  rw [tM_len]
  clear hO hb2 hT hg1 hg2
  go_wp2_with fail
  refine (getM_any _ (putM tM) w2 HV.out (putM_by tM_b)).mono ?_
  rintro e w3 ⟨hp, hb3⟩
  obtain ⟨hsum, hok, hdr⟩ := ok_put tM_may tM_b (by rw [tM_len]; omega)
  rcases hp with ⟨hno, -⟩ | ⟨-, hno, -⟩ | ⟨-, -, iv, lv, dv, rfl, hrow⟩
  · exact absurd hsum hno
  · exact absurd hok hno
  rw [hdr] at hrow
  rw [hdr]
  have HRow := Lib.hid hrow
  replace HA := Lib.hid (HA.out.block (hb3.block _ HA.out.lt))
  replace HB := Lib.hid (HB.out.trans (hb3.mono HB.out.size))
  replace HV := Lib.hid (HV.out.below hb3 (Nat.le_refl _))
  clear hrow hb3 hsum hok hdr
  have HA4 := Lib.hid (msgAt_new (gF (bodyM tM)) iv lv dv 30 w3)
  have hB4 := (Below.refl w3.heap.size w3).alloc (Nat.le_refl _) (Obj.cells (msgL (gF (bodyM tM)) iv lv dv).toArray 30)
  have H1 := msgL_one HRow.out (gF (bodyM tM))
  replace HA := Lib.hid (HA.out.block (hB4.block _ HA.out.lt))
  replace HB := Lib.hid (HB.out.trans (hB4.mono HB.out.size))
  replace HV := Lib.hid (HV.out.below hB4 (Nat.le_refl _))
  replace HRow := Lib.hid (HRow.out.below hB4 (Nat.le_refl _))
  clear hB4
  go_wp2_with (refine wpList_store_msg (op := ⟨none, Op.store 30 (.tmp 4) (.tmp 19), _, _, _, _⟩) rfl (.tmp 4) (.tmp 19) rfl (gF (bodyM tM)) iv lv dv H1 w3 w3.heap.size rfl rfl rfl ?_)
  clear H1
  generalize w3.alloc (Obj.cells (msgL (gF (bodyM tM)) iv lv dv).toArray 30) = w4 at *
  generalize w3.heap.size = T4 at *
  refine (getM_any _ [] w4 (bytesV_nil w4) byteL_nil).mono ?_
  rintro e w5 ⟨hp, hb5⟩
  rcases hp with ⟨-, rfl⟩ | ⟨hs, -⟩ | ⟨hs, -⟩
  rotate_left
  · exact absurd hs no_sum_nil
  · exact absurd hs no_sum_nil
  replace HA := Lib.hid (HA.out.block (hb5.block _ HA.out.lt))
  replace HA4 := Lib.hid (HA4.out.block (hb5.block _ HA4.out.lt))
  replace HB := Lib.hid (HB.out.trans (hb5.mono HB.out.size))
  replace HV := Lib.hid (HV.out.below hb5 (Nat.le_refl _))
  replace HRow := Lib.hid (HRow.out.below hb5 (Nat.le_refl _))
  clear hb5
  have hB6 := (Below.refl w5.heap.size w5).alloc (Nat.le_refl _) (Obj.cells (msgL zF (.slice none 0 0) (.slice none 0 0) (.slice none 0 0)).toArray 30)
  replace HA := Lib.hid (HA.out.block (hB6.block _ HA.out.lt))
  replace HA4 := Lib.hid (HA4.out.block (hB6.block _ HA4.out.lt))
  replace HB := Lib.hid (HB.out.trans (hB6.mono HB.out.size))
  replace HV := Lib.hid (HV.out.below hB6 (Nat.le_refl _))
  replace HRow := Lib.hid (HRow.out.below hB6 (Nat.le_refl _))
  clear hB6
  unfold zL
  go_wp2_with (first | (refine wpList_store_msg (op := ⟨none, Op.store 30 (.tmp 6) (.tmp 23), _, _, _, _⟩) rfl (.tmp 6) (.tmp 23) rfl zF (.slice none 0 0) (.slice none 0 0) (.slice none 0 0) (nil_one _) w5 w5.heap.size rfl rfl rfl ?_) | (refine wpList_build_gen (o := ⟨some 26, _, _, _, _, _⟩) _ _ (msgL (numM zF).F (.slice none 0 0) (.slice none 0 0) (.slice none 0 0)) (by rfl) rfl rfl (build_nM _) ?_))
  generalize w5.alloc (Obj.cells (msgL zF (.slice none 0 0) (.slice none 0 0) (.slice none 0 0)).toArray 30) = w6 at *
  generalize w5.heap.size = T6 at *
  refine (putM_no (numM zF) _ _ _ w6 (rows_nil w6 zF) zM_no).mono ?_
  rintro e w7 ⟨rfl, hb7⟩
  replace HA := Lib.hid (HA.out.block (hb7.block _ HA.out.lt))
  replace HA4 := Lib.hid (HA4.out.block (hb7.block _ HA4.out.lt))
  replace HB := Lib.hid (HB.out.trans (hb7.mono HB.out.size))
  replace HV := Lib.hid (HV.out.below hb7 (Nat.le_refl _))
  replace HRow := Lib.hid (HRow.out.below hb7 (Nat.le_refl _))
  clear hb7
  go_wp2_with (first | (refine wpList_load_g (op := ⟨some 42, _, _, _, _, _⟩) (by rfl) 30 _ rfl T4 0 rfl _ _ HA4.out.range Try.underlying30 rfl (size_msg _ _ _ _) ?_) | (refine wpList_load_g (op := ⟨some 43, _, _, _, _, _⟩) (by rfl) 30 _ rfl w.heap.size 0 rfl _ _ HA.out.range Try.underlying30 rfl (size_msg _ _ _ _) ?_))
  refine (same_like tM_like iv lv dv (.slice none 0 0) (.slice none 0 0) (.slice none 0 0) w7 HRow.out (rows_nil w7 tF) ((msgB_prs (bodyM_by tM_b)).d) byteL_nil).mono ?_
  rintro e w8 ⟨rfl, hb8⟩
  replace HA := Lib.hid (HA.out.block (hb8.block _ HA.out.lt))
  replace HB := Lib.hid (HB.out.trans (hb8.mono HB.out.size))
  replace HV := Lib.hid (HV.out.below hb8 (Nat.le_refl _))
  clear hb8 HA4 HRow
  go_wp2_with fail
  refine (check_any _ [] w8 (bytesV_nil w8) byteL_nil).mono ?_
  rintro e w9 ⟨rfl, hb9⟩
  replace HA := Lib.hid (HA.out.block (hb9.block _ HA.out.lt))
  replace HB := Lib.hid (HB.out.trans (hb9.mono HB.out.size))
  replace HV := Lib.hid (HV.out.below hb9 (Nat.le_refl _))
  clear hb9
  have hcrc : ((crc [] ([] : List Int).length : Nat) : Int) = 4294967295 := rfl
  rw [hcrc]
  have hcap : ¬ cap = 4 := by omega
  have h48 : (4 : Int) ≤ 8 := by omega
  have hcv : (convert 28 9 (.slice (some ⟨g, 4, none⟩) 4 (cap - 4))).run Try.prog w9 = .ok (.string ⟨#[14, 3, 2, 1]⟩) w9 := by
    obtain ⟨a9, cap9, e9, -, -, hev9⟩ := HV.out
    injection e9 with e1 e2 e3
    obtain ⟨b9, o9, e4, hlt9, hat9⟩ := hev9 (by rw [tM_len]; omega)
    rw [e4] at e1
    injection e1 with e1
    injection e1 with e5 e6
    subst e5
    subst e6
    have hm9 := hat9.mid 4 4 (by rw [tM_len]; omega)
    rw [tM_mid] at hm9
    have hbv : BytesV w9 (.slice (some ⟨g, 4, none⟩) 4 (cap - 4)) [14, 3, 2, 1] := ⟨_, _, rfl, by show 4 ≤ cap - 4; omega, by omega, fun _ => ⟨g, 0 + 4, rfl, hlt9, hm9⟩⟩
    exact convW_any hbv
  clear hcrc
  go_wp2_with (refine wpList_load_g (op := ⟨some 65, _, _, _, _, _⟩) (by rfl) 30 _ rfl w.heap.size 0 rfl _ _ HA.out.range Try.underlying30 rfl (size_msg _ _ _ _) ?_)
  refine (mayM_any tM _ _ _ w9 (rows_nil w9 tF)).mono ?_
  rintro e w10 ⟨rfl, hb10⟩
  replace HB := Lib.hid (HB.out.trans (hb10.mono HB.out.size))
  rw [tM_may]
  clear hb10
  go_wp2_with fail
  go_ret
  exact ⟨rfl, HB.out⟩
end Go.Proofs.Ytembppihfcclcaa
