/-
  Wire: WireAsks: which messages may be, are the same, and their bytes, is what the document says.
-/
import Derived.Test.YtembppihfcclcaaVS
import Derived.Test.YtembppihfcclcaaVB
import Derived.Test.YtembppihfcclcaaVL
import Derived.Test.YtembppihfcclcaaG38x
import Derived.Deep.DeepCutAuto
import Derived.Deep.CutBlock
namespace Go.Proofs.Ytembppihfcclcaa
set_option linter.unusedVariables false
open Go.ChangeShapes Go.WideShapes Go.ChangeAt Go.RowKit

set_option linter.unusedSimpArgs false
def IsBs (w : World) (v : Value) : Prop := ∃ bs, BytesV w v bs ∧ ByteL bs
set_option maxRecDepth 100000 in
theorem open_bs {H : Type} {enc : TypeId × Value → H} {W : World} {b0 : Nat} {x : Value} {d : DataW H} {p : List MemPlace} (hv : Value.okWide Try.prog W .any b0 28 x) (h : DataW.Trod enc Try.prog W 0 (fun _ => true) true 28 x d p) : IsBs W x := by
  obtain ⟨a, len, cap, rfl, h1, h2, h3⟩ := open_rows [.u8] Try.underlying28 (by kernel_rfl) (by decide) (by kernel_rfl) hv h
  by_cases h0 : 0 < len
  · obtain ⟨b, o, z, e, hb, hc⟩ := h3 h0
    have hl : ((List.range len).map (fun i => z i 0)).length = len := by rw [List.length_map, List.length_range]
    have hz : ∀ i, i < len → ((List.range len).map (fun i => z i 0)).getD i 0 = z i 0 := fun i hi => by
      rw [List.getD_eq_getElem?_getD, List.getElem?_map, List.getElem?_range hi]; rfl
    refine ⟨(List.range len).map (fun i => z i 0), ⟨a, cap, by rw [hl], by omega, h2, fun _ => ⟨b, o, e, hb, fun i hi => ?_⟩⟩, ?_⟩
    · rw [hl] at hi
      rw [hz i hi]
      have := (hc i hi 0 .u8 rfl).1
      simpa using this
    · rw [byteL_iff]
      intro x hx
      rw [List.mem_map] at hx
      obtain ⟨i, hi, rfl⟩ := hx
      have := (hc i (List.mem_range.1 hi) 0 .u8 rfl).2
      simp [IntKind.min, IntKind.max, IntKind.bits, IntKind.signed] at this
      omega
  · obtain rfl : len = 0 := by omega
    exact ⟨[], ⟨a, cap, rfl, h1, h2, fun h => absurd h (by simp)⟩, fun i => by unfold zz; simp⟩
/-- What Put answers, in one. -/
def PutU (M : Msg) (code : Int) (xs : List Int) : Prop := (mayM M = false ∧ code = 1 ∧ xs = []) ∨ (mayM M = true ∧ 1200 < (putM M).length ∧ code = 4 ∧ xs = []) ∨ (mayM M = true ∧ (putM M).length ≤ 1200 ∧ code = 0 ∧ xs = putM M)
theorem putU_any (M : Msg) (iv lv dv : Value) (w : World) (hr : RowsV w iv lv dv M) (hm : MsgB M) :
    Calls Try.prog 14 #[.agg (msgL M.F iv lv dv).toArray] w fun e w' => ∃ a cap code xs, e = .returned (.tuple #[.slice a xs.length cap, .int .i64 code]) ∧ Hid (BytesV w' (.slice a xs.length cap) xs) ∧ Hid (PutU M code xs) ∧ Hid (Below w.heap.size w w') := by
  rcases hy : mayM M with _ | _
  · refine (putM_no M iv lv dv w hr hy).mono ?_
    rintro e w' ⟨rfl, hb⟩
    exact ⟨none, 0, 1, [], rfl, Lib.hid (bytesV_nil w'), Lib.hid (Or.inl ⟨hy, rfl, rfl⟩), Lib.hid hb⟩
  · refine (putM_yes M iv lv dv w hr hm hy).mono ?_
    rintro e w' ⟨⟨hl, rfl⟩ | ⟨hl, v, rfl, hO⟩, hb⟩
    · exact ⟨none, 0, 4, [], rfl, Lib.hid (bytesV_nil w'), Lib.hid (Or.inr (Or.inl ⟨hy, hl, rfl, rfl⟩)), Lib.hid hb⟩
    · obtain ⟨a, cap, rfl, h1, h2, h3⟩ := hO.bytes0
      exact ⟨a, cap, 0, putM M, rfl, Lib.hid ⟨a, cap, rfl, h1, h2, h3⟩, Lib.hid (Or.inr (Or.inr ⟨hy, hl, rfl, rfl⟩)), Lib.hid hb⟩
/-- What Get answers, in one. -/
def GetU (bs : List Int) (M : Msg) (code : Int) : Prop := (¬ SumOk bs ∧ code = 9 ∧ M = numM zF) ∨ (SumOk bs ∧ ¬ OkM bs ∧ code = 2 ∧ M = numM zF) ∨ (SumOk bs ∧ OkM bs ∧ code = 0 ∧ M = prsM (bs.drop 4))
theorem GetU.same {bs : List Int} {M N : Msg} {c d : Int} (h : GetU bs M c) (k : GetU bs N d) : M = N ∧ c = d := by
  rcases h with ⟨h1, rfl, rfl⟩ | ⟨h1, h2, rfl, rfl⟩ | ⟨h1, h2, rfl, rfl⟩ <;> rcases k with ⟨k1, rfl, rfl⟩ | ⟨k1, k2, rfl, rfl⟩ | ⟨k1, k2, rfl, rfl⟩ <;> first | exact ⟨rfl, rfl⟩ | contradiction
theorem getU_of {bs : List Int} (hby : ByteL bs) {e : Ending} {w' : World} (h : GetQ bs e w') : ∃ M code a1 n1 c1 a2 n2 c2 a3 n3 c3, e = .returned (.tuple #[.agg (msgL M.F (.slice a1 n1 c1) (.slice a2 n2 c2) (.slice a3 n3 c3)).toArray, .int .i64 code]) ∧ Hid (RowsV w' (.slice a1 n1 c1) (.slice a2 n2 c2) (.slice a3 n3 c3) M) ∧ Hid (ByteL M.d) ∧ Hid (GetU bs M code) := by
  rcases h with ⟨h1, rfl⟩ | ⟨h1, h2, rfl⟩ | ⟨h1, h2, iv, lv, dv, rfl, hr⟩
  · exact ⟨numM zF, 9, none, 0, 0, none, 0, 0, none, 0, 0, rfl, Lib.hid (rows_nil w' zF), Lib.hid byteL_nil, Lib.hid (Or.inl ⟨h1, rfl, rfl⟩)⟩
  · exact ⟨numM zF, 2, none, 0, 0, none, 0, 0, none, 0, 0, rfl, Lib.hid (rows_nil w' zF), Lib.hid byteL_nil, Lib.hid (Or.inr (Or.inl ⟨h1, h2, rfl, rfl⟩))⟩
  · have hr0 := hr
    obtain ⟨⟨ia, ic, rfl, -⟩, ⟨la, lc, rfl, -⟩, ⟨da, dc, rfl, -⟩⟩ := hr
    exact ⟨prsM (bs.drop 4), 0, _, _, _, _, _, _, _, _, _, rfl, Lib.hid hr0, Lib.hid (msgB_prs (hby.dropE 4)).d, Lib.hid (Or.inr (Or.inr ⟨h1, h2, rfl, rfl⟩))⟩
theorem sameM_self (M : Msg) : sameM M M = true := by
  have h1 : numB M.F M.F 13 = true := (numB_iff M.F M.F 13).2 (fun _ _ => rfl)
  have h2 : rowsB M M = true := MLike.rows ⟨fun _ _ => rfl, rfl, fun _ _ => rfl, rfl, fun _ _ => ⟨rfl, rfl, fun _ _ => ⟨rfl, rfl, rfl, rfl⟩, fun _ _ => rfl⟩, rfl⟩
  show (numB M.F M.F 13 && rowsB M M) = true
  rw [h1, h2]
  rfl
theorem dec_or (P : Prop) : P ∨ ¬ P := Classical.em P
/-- Where the law stands: its two messages in their blocks, the bytes. -/
structure WQ (w : World) (M N : Msg) (iv lv dv iv' lv' dv' : Value) (vb : Value) (bs : List Int) (wx : World) : Prop where
  m : MsgAt wx w.heap.size M.F iv lv dv
  n : MsgAt wx (w.heap.size + 1) N.F iv' lv' dv'
  rm : RowsV wx iv lv dv M
  rn : RowsV wx iv' lv' dv' N
  b : BytesV wx vb bs
  bel : Below w.heap.size w wx
theorem WQ.below {w wx wy : World} {M N : Msg} {iv lv dv iv' lv' dv' vb : Value} {bs : List Int} (h : WQ w M N iv lv dv iv' lv' dv' vb bs wx) (hb : Below wx.heap.size wx wy) : WQ w M N iv lv dv iv' lv' dv' vb bs wy :=
  ⟨h.m.block (hb.block _ h.m.lt), h.n.block (hb.block _ h.n.lt), h.rm.below hb (Nat.le_refl _), h.rn.below hb (Nat.le_refl _), h.b.below hb (Nat.le_refl _), h.bel.trans (hb.mono h.bel.size)⟩
set_option maxRecDepth 100000 in
set_option maxHeartbeats 8000000 in
theorem law_WireAsks (v0 v1 v2 : Value) (a3 : Bool) (w : World) (w0 : IsMsg w v0) (w1 : IsMsg w v1) (w2 : IsBs w v2) :
    Calls Try.prog 5 #[v0, v1, v2, .bool a3] w fun e w' => e = .returned (.bool true) ∧ Below w.heap.size w w' := by
  obtain ⟨M, iv, lv, dv, rfl, hr, hmb, -⟩ := w0
  obtain ⟨N, iv', lv', dv', rfl, hr', hnb, -⟩ := w1
  obtain ⟨bs, hbv, hby⟩ := w2
  have hA1 := msgAt_new M.F iv lv dv 30 w
  have hB1 := (Below.refl w.heap.size w).alloc (Nat.le_refl _) (Obj.cells (msgL M.F iv lv dv).toArray 30)
  have hA2 := msgAt_new N.F iv' lv' dv' 30 (w.alloc (Obj.cells (msgL M.F iv lv dv).toArray 30))
  have hA1' := hA1.block (Below.heap_alloc _ (Obj.cells (msgL N.F iv' lv' dv').toArray 30) _ hA1.lt)
  have hB2 := hB1.alloc hB1.size (Obj.cells (msgL N.F iv' lv' dv').toArray 30)
  have hsz : (w.alloc (Obj.cells (msgL M.F iv lv dv).toArray 30)).heap.size = w.heap.size + 1 := by simp
  rw [hsz] at hA2
  have HQ : Hid (WQ w M N iv lv dv iv' lv' dv' v2 bs ((w.alloc (Obj.cells (msgL M.F iv lv dv).toArray 30)).alloc (Obj.cells (msgL N.F iv' lv' dv').toArray 30))) := Lib.hid ⟨hA1', hA2, hr.below hB2 (Nat.le_refl _), hr'.below hB2 (Nat.le_refl _), hbv.below hB2 (Nat.le_refl _), hB2⟩
  obtain ⟨ba, bc, rfl, hbc, hbm, -⟩ := hbv
  unfold maxLen at hbm
  have HM := Lib.hid hmb
  have HN := Lib.hid hnb
  have HBY := Lib.hid hby
  clear hA1 hA2 hA1' hB1 hB2 hsz hr hr' hmb hnb hby
  go_enter Try.func5, Try.ntmps5
  go_upto_region 1 with (fail)
  generalize (w.alloc (Obj.cells (msgL M.F iv lv dv).toArray 30)).alloc (Obj.cells (msgL N.F iv' lv' dv').toArray 30) = wa at *
  go_wp2_with (refine wpList_load_g (op := ⟨some 17, _, _, _, _, _⟩) (by rfl) 30 _ rfl w.heap.size 0 rfl _ _ HQ.out.m.range Try.underlying30 rfl (size_msg _ _ _ _) ?_)
  refine (fewM_any M iv lv dv wa HQ.out.rm).mono ?_
  rintro e wb ⟨⟨b, rfl⟩, hb⟩
  replace HQ := Lib.hid (HQ.out.below hb)
  clear hb
  cases b with
  | false =>
    go_wp2_with fail
    refine (told_law _).mono ?_
    rintro e wt ⟨rfl, hbt⟩
    replace HQ := Lib.hid (HQ.out.below hbt)
    clear hbt
    go_wp2_with fail
    go_ret
    exact ⟨rfl, HQ.out.bel⟩
  | true =>
  go_wp2_with (refine wpList_load_g (op := ⟨some 21, _, _, _, _, _⟩) (by rfl) 30 _ rfl (w.heap.size + 1) 0 rfl _ _ HQ.out.n.range Try.underlying30 rfl (size_msg _ _ _ _) ?_)
  refine (fewM_any N iv' lv' dv' wb HQ.out.rn).mono ?_
  rintro e wc ⟨⟨b, rfl⟩, hb⟩
  replace HQ := Lib.hid (HQ.out.below hb)
  clear hb
  cases b with
  | false =>
    go_wp2_with fail
    refine (told_law _).mono ?_
    rintro e wt ⟨rfl, hbt⟩
    replace HQ := Lib.hid (HQ.out.below hbt)
    clear hbt
    go_wp2_with fail
    go_ret
    exact ⟨rfl, HQ.out.bel⟩
  | true =>
  by_cases hlong : 300 < bs.length
  · have hl3 : (300 : Int) < (bs.length : Int) := by omega
    go_wp2_with fail
    refine (told_law _).mono ?_
    rintro e wt ⟨rfl, hbt⟩
    replace HQ := Lib.hid (HQ.out.below hbt)
    clear hbt
    go_wp2_with fail
    go_ret
    exact ⟨rfl, HQ.out.bel⟩
  have hl3 : ¬ (300 : Int) < (bs.length : Int) := by omega
  go_wp2_with (refine wpList_load_g (op := ⟨some 31, _, _, _, _, _⟩) (by rfl) 30 _ rfl w.heap.size 0 rfl _ _ HQ.out.m.range Try.underlying30 rfl (size_msg _ _ _ _) ?_)
  refine (mayRefM_any M iv lv dv _ HQ.out.rm HM.out).mono ?_
  rintro e wd ⟨rfl, hb⟩
  replace HQ := Lib.hid (HQ.out.below hb)
  clear hb hl3
  obtain ⟨mb, hmb⟩ : ∃ mb, mayM M = mb := ⟨_, rfl⟩
  rw [hmb]
  have HMb := Lib.hid hmb
  clear hmb
  have hmm : (mb != mb) = false := by simp
  go_wp2_with (refine wpList_load_g (op := ⟨some 34, _, _, _, _, _⟩) (by rfl) 30 _ rfl w.heap.size 0 rfl _ _ HQ.out.m.range Try.underlying30 rfl (size_msg _ _ _ _) ?_)
  refine (putU_any M iv lv dv _ HQ.out.rm HM.out).mono ?_
  rintro e we ⟨xa, xc, code, xs, rfl, HX, HPu, hb⟩
  replace HQ := Lib.hid (HQ.out.below hb.out)
  clear hb
  go_wp2_with (refine wpList_load_g (op := ⟨some 38, _, _, _, _, _⟩) (by rfl) 30 _ rfl w.heap.size 0 rfl _ _ HQ.out.m.range Try.underlying30 rfl (size_msg _ _ _ _) ?_)
  refine (mayM_any M iv lv dv _ HQ.out.rm).mono ?_
  rintro e wf ⟨rfl, hb⟩
  replace HQ := Lib.hid (HQ.out.below hb)
  have HXf := Lib.hid (HX.out.below hb (Nat.le_refl _))
  clear hb HX
  rw [HMb.out]
  go_upto_block 0 with (fail)
  go_cut [] (fun wx => WQ w M N iv lv dv iv' lv' dv' (.slice ba bs.length bc) bs wx)
  case first =>
    clear hmm
    rcases HPu.out with ⟨hy, rfl, rfl⟩ | ⟨hy, hl, rfl, rfl⟩ | ⟨hy, hl, rfl, rfl⟩
    · obtain rfl : mb = false := HMb.out.symm.trans hy
      clear hy
      go_wp2_with fail
      go_meet
      exact HQ.out
    · obtain rfl : mb = true := HMb.out.symm.trans hy
      have HMP := Lib.hid ((mayM_iff M).1 hy)
      have hps : ((strOfNums (putM M)).size : Int) = (putM M).length := by rw [strOfNums_size]
      have hp12 : (1200 : Int) < ((putM M).length : Int) := by omega
      clear hy
      go_wp2_with (refine wpList_load_g (op := ⟨some 53, _, _, _, _, _⟩) (by rfl) 30 _ rfl w.heap.size 0 rfl _ _ HQ.out.m.range Try.underlying30 rfl (size_msg _ _ _ _) ?_)
      refine (putRefM_any M iv lv dv _ HQ.out.rm HM.out HMP.out).mono ?_
      rintro e wg ⟨rfl, hb⟩
      replace HQ := Lib.hid (HQ.out.below hb)
      clear hb
      generalize putM M = pm at *
      go_wp2_with fail
      go_meet
      exact HQ.out
    · obtain rfl : mb = true := HMb.out.symm.trans hy
      have HMP := Lib.hid ((mayM_iff M).1 hy)
      have hps : ((strOfNums (putM M)).size : Int) = (putM M).length := by rw [strOfNums_size]
      have hp12 : ¬ (1200 : Int) < ((putM M).length : Int) := by omega
      clear hy
      go_wp2_with (refine wpList_load_g (op := ⟨some 53, _, _, _, _, _⟩) (by rfl) 30 _ rfl w.heap.size 0 rfl _ _ HQ.out.m.range Try.underlying30 rfl (size_msg _ _ _ _) ?_)
      refine (putRefM_any M iv lv dv _ HQ.out.rm HM.out HMP.out).mono ?_
      rintro e wg ⟨rfl, hb⟩
      replace HQ := Lib.hid (HQ.out.below hb)
      replace HXf := Lib.hid (HXf.out.below hb (Nat.le_refl _))
      clear hb
      have HPut := Lib.hid (fun d os => putRefM_any M iv lv dv (Go.Sort.grow (redrawn wg d) os) (HQ.out.rm.below (below_regrown wg d os) (Nat.le_refl _)) HM.out HMP.out)
      have HC := Lib.hid (fun d os => conv_anyW (HXf.out.below (below_regrown wg d os) (Nat.le_refl _)))
      have HCM := Lib.hid (fun d os => HQ.out.m.block ((below_regrown wg d os).block _ HQ.out.m.lt))
      have heq : ((strOfNums (putM M)).toList == (strOfNums (putM M)).toList) = true := by simp
      generalize putM M = pm at *
      go_upto_region 13 with (fail)
      refine wp_region_quiet_below (by kernel_rfl) (by kernel_rfl) ?_
      iterate 4 (go_big_quiet_step (fail))
      refine quiet_convW (by rfl) _ rfl _ rfl _ (by rintro w' ⟨p, rfl⟩; exact HC.out p.d p.os) ?_
      simp only [Act.put, List.setIfInBounds_toArray, List.set_cons_zero, List.set_cons_succ]
      refine quiet_load_msgW (by rfl) _ rfl w.heap.size 0 rfl _ (by rintro w' ⟨p, rfl⟩; exact (HCM.out p.d p.os).range) (size_msg _ _ _ _) ?_
      simp only [Act.put, List.setIfInBounds_toArray, List.set_cons_zero, List.set_cons_succ]
      go_big_quiet_step (exact Calls.regrown_of (HPut.out _ _))
      repeat (go_big_quiet_step (fail))
      refine wpQuiet_nil ?_
      intro w10 hw'
      obtain ⟨⟨nq, osq⟩, hw3⟩ := hw'
      have bq := below_regrown wg nq osq
      rw [← hw3] at bq
      have HQn := Lib.hid (HQ.out.below bq)
      clear hw3 bq HPut HC HCM heq
      go_wp2_with fail
      go_meet
      exact HQn.out
  case rest =>
    clear HQ HXf HPu hmm
    have HQ := Lib.hid hcut
    clear hcut
    have hc2 := conv_anyW HQ.out.b
    go_upto_if 76 with (fail)
    clear hc2
    have hcrc := crc_lt bs HBY.out bs.length
    go_cut [12] (fun c wx => ∃ cs : List Int, c = .string (strOfNums cs) ∧ ByteL cs ∧ cs.length ≤ 304 ∧ WQ w M N iv lv dv iv' lv' dv' (.slice ba bs.length bc) bs wx)
    case first =>
      cases a3 with
      | false =>
        go_wp2_with fail
        go_meet
        exact ⟨bs, rfl, HBY.out, by omega, HQ.out⟩
      | true =>
        have hu0 : ∀ c : Nat, c < 4294967296 → IntKind.u64.wrap (c : Int) = (c : Int) := fun c hc => by simp [IntKind.wrap, IntKind.bits, IntKind.signed]; omega
        have hu := hu0 _ hcrc
        have HV : Hid (0 ≤ ((crc bs bs.length : Nat) : Int) ∧ ((crc bs bs.length : Nat) : Int) < 18446744073709551616) := Lib.hid (by omega)
        have hcat := run_cat (leB ((crc bs bs.length : Nat) : Int) 4) bs (by rw [leB_len]; omega)
        have HCh := Lib.hid (fun w => checkRef_any bs w HBY.out (by omega))
        have HBc : Hid (ByteL (leB ((crc bs bs.length : Nat) : Int) 4 ++ bs)) := Lib.hid (by
          rw [byteL_iff]
          intro x hx
          rcases List.mem_append.1 hx with hx | hx
          · exact leB_by _ _ x hx
          · exact byteL_iff.1 HBY.out x hx)
        have HLc : Hid ((leB ((crc bs bs.length : Nat) : Int) 4 ++ bs).length ≤ 304) := Lib.hid (by rw [List.length_append, leB_len]; omega)
        clear hu0 hcrc
        generalize ((crc bs bs.length : Nat) : Int) = cc at *
        go_wp2_with fail
        refine (HCh.out _).mono ?_
        rintro e w12 ⟨rfl, hw12⟩
        subst hw12
        go_wp2_with fail
        refine (numW_any cc 4 HV.out (by decide) _).mono ?_
        rintro e w13 ⟨rfl, hb13⟩
        have HQn := Lib.hid (HQ.out.below hb13)
        clear hb13
        go_wp2_with fail
        go_meet
        exact ⟨leB cc 4 ++ bs, rfl, HBc.out, HLc.out, HQn.out⟩
    case rest =>
      obtain ⟨cs, rfl, hcby, hcl, hq⟩ := hcut
      clear HQ hcrc
      have HQ := Lib.hid hq
      have HCB := Lib.hid hcby
      have hcv := conv_str wc cs
      have hbb := (bytesWorld_rd wc.heap.size wc (strOfNums cs)).below (Nat.le_refl _) (Nat.le_refl _)
      have HVc := Lib.hid (bytesWorld_row wc cs hcby (by omega)).bytes
      replace HQ := Lib.hid (HQ.out.below hbb)
      clear hq hcby hbb
      obtain ⟨w4, hw4⟩ : ∃ w4, Lib.bytesWorld wc 5 (strOfNums cs) = w4 := ⟨_, rfl⟩
      rw [hw4] at hcv HVc HQ
      clear hw4
      go_wp2_with fail
      refine (getM_any _ cs w4 HVc.out HCB.out).mono ?_
      rintro e w5 ⟨hg, hb⟩
      replace HQ := Lib.hid (HQ.out.below hb)
      obtain ⟨Y, code, y1, yn1, yc1, y2, yn2, yc2, y3, yn3, yc3, rfl, HYr, HYb, HYu⟩ := getU_of HCB.out hg
      clear hb hg hcv HVc
      have HY5 := Lib.hid (msgAt_new Y.F (.slice y1 yn1 yc1) (.slice y2 yn2 yc2) (.slice y3 yn3 yc3) 30 w5)
      have hb6 := (Below.refl w5.heap.size w5).alloc (Nat.le_refl _) (Obj.cells (msgL Y.F (.slice y1 yn1 yc1) (.slice y2 yn2 yc2) (.slice y3 yn3 yc3)).toArray 30)
      replace HQ := Lib.hid (HQ.out.below hb6)
      replace HYr := Lib.hid (HYr.out.below hb6 (Nat.le_refl _))
      clear hb6
      go_upto_region 19 with (refine wpList_store_msg (op := ⟨none, Op.store 30 (.tmp 13) (.tmp 87), _, _, _, _⟩) rfl (.tmp 13) (.tmp 87) rfl Y.F (.slice y1 yn1 yc1) (.slice y2 yn2 yc2) (.slice y3 yn3 yc3) (msg_one _ _ _ _ _ _ _ _ _ _) w5 w5.heap.size rfl (by first | rfl | simp [Act.eval, Act.put]) (by first | rfl | simp [Act.eval, Act.put]) ?_)
      generalize w5.alloc (Obj.cells (msgL Y.F (.slice y1 yn1 yc1) (.slice y2 yn2 yc2) (.slice y3 yn3 yc3)).toArray 30) = w6 at *
      generalize w5.heap.size = Ty at *
      go_wp2_with fail
      refine (getRefM_any cs HCB.out (by omega) w6).mono ?_
      rintro e w7 ⟨hg, hb⟩
      replace HQ := Lib.hid (HQ.out.below hb)
      replace HYr := Lib.hid (HYr.out.below hb (Nat.le_refl _))
      replace HY5 := Lib.hid (HY5.out.block (hb.block _ HY5.out.lt))
      obtain ⟨Z, code2, z1, zn1, zc1, z2, zn2, zc2, z3, zn3, zc3, rfl, HZr, HZb, HZu⟩ := getU_of HCB.out hg
      obtain ⟨rfl, rfl⟩ := HZu.out.same HYu.out
      clear hb hg HZu HYu HZb
      have HZ5 := Lib.hid (msgAt_new Z.F (.slice z1 zn1 zc1) (.slice z2 zn2 zc2) (.slice z3 zn3 zc3) 30 w7)
      have hb8 := (Below.refl w7.heap.size w7).alloc (Nat.le_refl _) (Obj.cells (msgL Z.F (.slice z1 zn1 zc1) (.slice z2 zn2 zc2) (.slice z3 zn3 zc3)).toArray 30)
      replace HQ := Lib.hid (HQ.out.below hb8)
      replace HYr := Lib.hid (HYr.out.below hb8 (Nat.le_refl _))
      replace HZr := Lib.hid (HZr.out.below hb8 (Nat.le_refl _))
      replace HY5 := Lib.hid (HY5.out.block (hb8.block _ HY5.out.lt))
      clear hb8
      go_upto_region 20 with (refine wpList_store_msg (op := ⟨none, Op.store 30 (.tmp 15) (.tmp 92), _, _, _, _⟩) rfl (.tmp 15) (.tmp 92) rfl Z.F (.slice z1 zn1 zc1) (.slice z2 zn2 zc2) (.slice z3 zn3 zc3) (msg_one _ _ _ _ _ _ _ _ _ _) w7 w7.heap.size rfl (by first | rfl | simp [Act.eval, Act.put]) (by first | rfl | simp [Act.eval, Act.put]) ?_)
      generalize w7.alloc (Obj.cells (msgL Z.F (.slice z1 zn1 zc1) (.slice z2 zn2 zc2) (.slice z3 zn3 zc3)).toArray 30) = w8 at *
      generalize w7.heap.size = Tz at *
      have HL0 := Lib.hid (fun d os => HQ.out.m.block ((below_regrown w8 d os).block _ HQ.out.m.lt))
      have HL1 := Lib.hid (fun d os => HQ.out.n.block ((below_regrown w8 d os).block _ HQ.out.n.lt))
      have HLy := Lib.hid (fun d os => HY5.out.block ((below_regrown w8 d os).block _ HY5.out.lt))
      have HLz := Lib.hid (fun d os => HZ5.out.block ((below_regrown w8 d os).block _ HZ5.out.lt))
      have HS1 := Lib.hid (fun d os => sameRefM_any Z Z _ _ _ _ _ _ (Go.Sort.grow (redrawn w8 d) os) (HYr.out.below (below_regrown w8 d os) (Nat.le_refl _)) (HZr.out.below (below_regrown w8 d os) (Nat.le_refl _)) HYb.out HYb.out)
      have HS2 := Lib.hid (fun d os => sameM_any M N _ _ _ _ _ _ (Go.Sort.grow (redrawn w8 d) os) (HQ.out.rm.below (below_regrown w8 d os) (Nat.le_refl _)) (HQ.out.rn.below (below_regrown w8 d os) (Nat.le_refl _)) HM.out.d HN.out.d)
      have HS3 := Lib.hid (fun d os => sameRefM_any M N _ _ _ _ _ _ (Go.Sort.grow (redrawn w8 d) os) (HQ.out.rm.below (below_regrown w8 d os) (Nat.le_refl _)) (HQ.out.rn.below (below_regrown w8 d os) (Nat.le_refl _)) HM.out.d HN.out.d)
      have HS4 := Lib.hid (fun d os => sameM_any M M _ _ _ _ _ _ (Go.Sort.grow (redrawn w8 d) os) (HQ.out.rm.below (below_regrown w8 d os) (Nat.le_refl _)) (HQ.out.rm.below (below_regrown w8 d os) (Nat.le_refl _)) HM.out.d HM.out.d)
      have HC1 := Lib.hid (fun d os => check_any _ bs (Go.Sort.grow (redrawn w8 d) os) (HQ.out.b.below (below_regrown w8 d os) (Nat.le_refl _)) HBY.out)
      have HC2 := Lib.hid (fun d os => conv_anyW (HQ.out.b.below (below_regrown w8 d os) (Nat.le_refl _)))
      have HC3 : Hid (∀ w, Calls Try.prog 19 #[.string (strOfNums bs)] w fun e w' => e = .returned (.int .u32 (crc bs bs.length : Nat)) ∧ Below w.heap.size w w') := Lib.hid (fun w => (checkRef_any bs w HBY.out (by omega)).mono (fun e w' h => by
        obtain ⟨h1, h2⟩ := h
        subst h2
        exact ⟨h1, Below.refl _ _⟩))
      rw [sameM_self] at HS1 HS4
      have hcc : (code == code) = true := by simp
      have hss : (sameM M N == sameM M N) = true := by simp
      generalize sameM M N = sm at *
      generalize ((crc bs bs.length : Nat) : Int) = cc at *
      have hcc2 : (cc == cc) = true := by simp
      refine wp_region_quiet_below (by kernel_rfl) (by kernel_rfl) ?_
      go_big_quiet_step (exact Calls.regrown_of (told_law _))
      iterate 6 (go_big_quiet_step (fail))
      refine quiet_load_msgW (by rfl) _ rfl Ty 0 rfl _ (by rintro w' ⟨p, rfl⟩; exact (HLy.out p.d p.os).range) (size_msg _ _ _ _) ?_
      simp only [Act.put, List.setIfInBounds_toArray, List.set_cons_zero, List.set_cons_succ]
      refine quiet_load_msgW (by rfl) _ rfl Tz 0 rfl _ (by rintro w' ⟨p, rfl⟩; exact (HLz.out p.d p.os).range) (size_msg _ _ _ _) ?_
      simp only [Act.put, List.setIfInBounds_toArray, List.set_cons_zero, List.set_cons_succ]
      go_big_quiet_step (exact Calls.regrown_of (HS1.out _ _))
      iterate 2 (go_big_quiet_step (fail))
      refine quiet_load_msgW (by rfl) _ rfl w.heap.size 0 rfl _ (by rintro w' ⟨p, rfl⟩; exact (HL0.out p.d p.os).range) (size_msg _ _ _ _) ?_
      simp only [Act.put, List.setIfInBounds_toArray, List.set_cons_zero, List.set_cons_succ]
      refine quiet_load_msgW (by rfl) _ rfl (w.heap.size + 1) 0 rfl _ (by rintro w' ⟨p, rfl⟩; exact (HL1.out p.d p.os).range) (size_msg _ _ _ _) ?_
      simp only [Act.put, List.setIfInBounds_toArray, List.set_cons_zero, List.set_cons_succ]
      go_big_quiet_step (exact Calls.regrown_of (HS2.out _ _))
      refine quiet_load_msgW (by rfl) _ rfl w.heap.size 0 rfl _ (by rintro w' ⟨p, rfl⟩; exact (HL0.out p.d p.os).range) (size_msg _ _ _ _) ?_
      simp only [Act.put, List.setIfInBounds_toArray, List.set_cons_zero, List.set_cons_succ]
      refine quiet_load_msgW (by rfl) _ rfl (w.heap.size + 1) 0 rfl _ (by rintro w' ⟨p, rfl⟩; exact (HL1.out p.d p.os).range) (size_msg _ _ _ _) ?_
      simp only [Act.put, List.setIfInBounds_toArray, List.set_cons_zero, List.set_cons_succ]
      go_big_quiet_step (exact Calls.regrown_of (HS3.out _ _))
      iterate 3 (go_big_quiet_step (fail))
      refine quiet_load_msgW (by rfl) _ rfl w.heap.size 0 rfl _ (by rintro w' ⟨p, rfl⟩; exact (HL0.out p.d p.os).range) (size_msg _ _ _ _) ?_
      simp only [Act.put, List.setIfInBounds_toArray, List.set_cons_zero, List.set_cons_succ]
      refine quiet_load_msgW (by rfl) _ rfl w.heap.size 0 rfl _ (by rintro w' ⟨p, rfl⟩; exact (HL0.out p.d p.os).range) (size_msg _ _ _ _) ?_
      simp only [Act.put, List.setIfInBounds_toArray, List.set_cons_zero, List.set_cons_succ]
      go_big_quiet_step (exact Calls.regrown_of (HS4.out _ _))
      iterate 3 (go_big_quiet_step (fail))
      go_big_quiet_step (exact Calls.regrown_of (HC1.out _ _))
      go_big_quiet_step (fail)
      refine quiet_convW (by rfl) _ rfl _ rfl _ (by rintro w' ⟨p, rfl⟩; exact HC2.out p.d p.os) ?_
      simp only [Act.put, List.setIfInBounds_toArray, List.set_cons_zero, List.set_cons_succ]
      go_big_quiet_step (exact Calls.regrown_of (HC3.out _))
      repeat (go_big_quiet_step (fail))
      refine wpQuiet_nil ?_
      intro w10 hw'
      obtain ⟨⟨nq, osq⟩, hw3⟩ := hw'
      have bq := below_regrown w8 nq osq
      rw [← hw3] at bq
      have HQn := Lib.hid (HQ.out.below bq)
      clear hw3 bq HL0 HL1 HLy HLz HS1 HS2 HS3 HS4 HC1 HC2 HC3
      go_wp2_with fail
      go_ret
      exact ⟨rfl, HQn.out.bel⟩
end Go.Proofs.Ytembppihfcclcaa
