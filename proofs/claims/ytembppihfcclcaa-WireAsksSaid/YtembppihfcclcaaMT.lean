/-
  Wire: Get, walked.
-/
import Derived.Test.YtembppihfcclcaaMR
namespace Go.Proofs.Ytembppihfcclcaa
set_option linter.unusedVariables false
open Go.ChangeShapes Go.WideShapes Go.ChangeAt Go.RowKit

set_option linter.unusedSimpArgs false
theorem block_ge {w w' : World} {B b : Nat} (h : Below B w w') (hb : b < w.heap.size) : b < w'.heap.size := Nat.lt_of_lt_of_le hb h.size
theorem rwAt_new4 {w : World} {b o n C : Nat} {ad : Addr} (ha : 0 < n → ad = ⟨b, o, none⟩) (hc : n ≤ C) (hm : C ≤ maxLen) : RwAt (w.alloc (Obj.cells #[.slice (some ad) n C] 79)) w.heap.size b o n C 0 := by
  refine ⟨⟨ad, ?_, fun h => by rw [Nat.add_zero]; exact ha h⟩, by rw [World.frozen?_alloc_new], Nat.zero_le _, hc, hm⟩
  rw [World.cell?_alloc_new]; rfl
set_option maxRecDepth 100000 in
set_option maxHeartbeats 8000000 in
theorem getM_long (v : Value) (bs : List Int) (w : World) (hv : BytesV w v bs) (hby : ByteL bs) (h4 : ¬ bs.length < 4) :
    Calls Try.prog 20 #[v] w fun e w' => GetQ bs e w' ∧ Below w.heap.size w w' := by
  have hmf : ∀ (fn : Fn) (first cap : Array Value) (w : World), (Instr.makeFunc fn first cap).run Try.prog w = .ok (.func fn first cap) w := fun _ _ _ _ => rfl
  have HV := Lib.hid hv
  obtain ⟨a, cap, rfl, hnc, hcm, hev⟩ := hv
  have HG := Lib.hid (gx_start w)
  have HBY := Lib.hid hby
  have HCM := Lib.hid hcm
  unfold maxLen at hcm
  obtain ⟨b, o, rfl, hbl, hba⟩ := hev (by omega)
  have HBA := Lib.hid hba
  have hd : decide ((bs.length : Int) < 4) = false := decide_eq_false (by omega)
  have hbd := build_msg0
  have hdl : (bs.drop 4).length = bs.length - 4 := List.length_drop
  obtain ⟨ad4, hif, had⟩ : ∃ ad4 : Addr, (if cap = 4 then some (⟨b, o, none⟩ : Addr) else some ⟨b, o + 4, none⟩) = some ad4 ∧ (0 < bs.length - 4 → ad4 = ⟨b, o + 4, none⟩) := by
    by_cases hc : cap = 4
    · exact ⟨⟨b, o, none⟩, if_pos hc, fun h => by omega⟩
    · exact ⟨⟨b, o + 4, none⟩, if_neg hc, fun _ => rfl⟩
  have HAd := Lib.hid had
  clear had
  have h5 : (0 : Int) ≤ 4 := by omega
  have h6 : (4 : Int) ≤ bs.length := by omega
  clear hba hev
  go_enter_defers Try.func20, Try.ntmps20
  go_wp2_with fail
  generalize ((w.alloc (Obj.cells #[.int .i64 0, .int .i64 0, .int .u16 0, .int .u16 0, .int .u32 0, .int .i64 0, .int .i64 0, .int .i64 0, .int .i64 0, .int .i64 0, .int .i64 0, .int .u32 0, .int .u64 0, .slice none 0 0, .slice none 0 0, .slice none 0 0] 30)).alloc (Obj.cells #[.int .i64 0] 3)) = w1 at *
  refine wp_region_any (by kernel_rfl) ?_
  change wpAny _ _ _ _ _ _ _ (World.drew _)
  have HG1 := Lib.hid HG.out.drew
  clear HG
  generalize w1.drew = w2 at *
  refine wpAny_take (i := 0) (v := ?_) rfl (by kernel_rfl) (by kernel_rfl) (by kernel_rfl) (getW_put 7 (by decide) _ _) (Or.inl ⟨by rfl, ?_⟩) ?_
  rotate_left 1
  · intro w; go_simp; try with_reducible rfl
  refine wpAny_take (i := 1) (v := ?_) rfl (by kernel_rfl) (by kernel_rfl) (by kernel_rfl) (getW_put 8 (by decide) _ _) (Or.inl ⟨by rfl, ?_⟩) ?_
  rotate_left 1
  · intro w; go_simp; try with_reducible rfl
  refine wpAny_take (i := 2) (v := ?_) rfl (by kernel_rfl) (by kernel_rfl) (by kernel_rfl) (getW_put 9 (by decide) _ _) (Or.inl ⟨by rfl, ?_⟩) ?_
  rotate_left 1
  · intro w; go_simp; try with_reducible rfl
  refine wpAny_take (i := 3) (v := ?_) rfl (by kernel_rfl) (by kernel_rfl) (by kernel_rfl) (getW_put 10 (by decide) _ _) (Or.inl ⟨by rfl, ?_⟩) ?_
  rotate_left 1
  · intro w; go_simp; try with_reducible rfl
  refine wpAny_take (i := 4) (v := ?_) rfl (by kernel_rfl) (by kernel_rfl) (by kernel_rfl) (getW_put 11 (by decide) _ _) (Or.inl ⟨by rfl, ?_⟩) ?_
  rotate_left 1
  · intro w; go_simp; try with_reducible rfl
  refine wpAny_take (i := 5) (v := ?_) rfl (by kernel_rfl) (by kernel_rfl) (by kernel_rfl) (getW_put 12 (by decide) _ _) (Or.inl ⟨by rfl, ?_⟩) ?_
  rotate_left 1
  · intro w; go_simp; try with_reducible rfl
  refine wpAny_take (i := 9) (v := ?_) rfl (by kernel_rfl) (by kernel_rfl) (by kernel_rfl) (getW_put 16 (by decide) _ _) (Or.inl ⟨by rfl, ?_⟩) ?_
  rotate_left 1
  · intro w; go_simp; try with_reducible rfl
  refine wpAny_take (i := 10) (v := ?_) rfl (by kernel_rfl) (by kernel_rfl) (by kernel_rfl) (getW_put 17 (by decide) _ _) (Or.inl ⟨by rfl, ?_⟩) ?_
  rotate_left 1
  · intro w; go_simp; try with_reducible rfl
  refine wpAny_ready (rs := [6]) (by kernel_rfl) (by simp) ?_
  refine AllReady.cons rfl (fun K hK => ?_) AllReady.nil
  go_simp
  have HGb := Lib.hid (HG1.out.grow ((Below.refl w2.heap.size w2).alloc (Nat.le_refl _) (Obj.cells #[.slice (some ⟨b, o, none⟩) bs.length cap] 79)) (by have := HG1.out.lt; omega))
  have HRb : Hid (RwAt (w2.alloc (Obj.cells #[.slice (some ⟨b, o, none⟩) bs.length cap] 79)) w2.heap.size b o bs.length cap 0) := Lib.hid (rwAt_new hnc HCM.out)
  have hbT : b < w2.heap.size := by have := HG1.out.lt; omega
  have hwT := HG1.out.lt
  generalize w2.alloc (Obj.cells #[.slice (some ⟨b, o, none⟩) bs.length cap] 79) = w3 at *
  generalize w2.heap.size = R at *
  refine hK _ _ ?_
  clear hK K HG1
  refine wpAny_ready (rs := [7]) (by kernel_rfl) (by simp) ?_
  refine AllReady.cons rfl (fun K hK => ?_) AllReady.nil
  go_simp
  go_at_call 42
  refine (rnum_q R b o cap 0 4 bs w3 HBY.out HRb.out (by omega) (by omega) (HBA.out.block (HGb.out.bel.block b hbl)) (by omega)).mono ?_
  rintro e w4 (⟨-, rfl, hr4, ho4⟩ | ⟨hl, -, -⟩)
  rotate_left
  · exact absurd hl (by omega)
  have HGc := Lib.hid (HGb.out.grow (B := w.heap.size + 2) (ho4.below (by omega)) (Nat.le_refl _))
  clear hr4 ho4 HRb HGb
  have hx0 := leV_nn HBY.out 0 4
  have hx1 := (leV_lt HBY.out 0).2.2.1
  have HSum : Hid (SumOk bs ↔ leV bs 0 4 = ((crc (bs.drop 4) (bs.drop 4).length : Nat) : Int)) := Lib.hid ⟨fun h => h.2, fun h => ⟨by omega, h⟩⟩
  generalize leV bs 0 4 = x at *
  have hx2 : IntKind.u32.wrap x = x := by
    simp [IntKind.wrap, IntKind.bits, IntKind.signed]
    omega
  refine hK _ _ ?_
  clear hK K
  refine wpAny_take (i := 8) (v := ?_) rfl (by kernel_rfl) (by kernel_rfl) (by kernel_rfl) (getW_put 15 (by decide) _ _) (Or.inl ⟨by rfl, ?_⟩) ?_
  rotate_left 1
  · intro w; go_simp; try with_reducible rfl
  refine wpAny_ready (rs := [11]) (by kernel_rfl) (by simp) ?_
  refine AllReady.cons rfl (fun K hK => ?_) AllReady.nil
  go_simp
  go_at_call 24
  have HB4 : Hid (BytesV w4 (.slice (some ad4) (bs.length - 4) (cap - 4)) (bs.drop 4)) := Lib.hid ⟨some ad4, cap - 4, by rw [hdl], by omega, by unfold maxLen; omega, fun h => ⟨b, o + 4, by rw [HAd.out (by omega)], block_ge HGc.out.bel hbl, (HBA.out.block (HGc.out.bel.block b hbl)).drop 4⟩⟩
  refine (check_any (.slice (some ad4) (bs.length - 4) (cap - 4)) (bs.drop 4) w4 HB4.out (HBY.out.drop 4)).mono ?_
  rintro e w5 ⟨rfl, hb5⟩
  have HGd := Lib.hid (HGc.out.grow hb5 (by have := HGc.out.lt; omega))
  clear hb5 HB4 HGc
  generalize (crc (bs.drop 4) (bs.drop 4).length) = C at *
  refine hK _ _ ?_
  clear hK K
  refine wpAny_take (i := 12) (v := ?_) rfl (by kernel_rfl) (by kernel_rfl) (by kernel_rfl) (getW_put 19 (by decide) _ _) (Or.inl ⟨by rfl, ?_⟩) ?_
  rotate_left 1
  · intro w; go_simp; try with_reducible rfl
  refine wpAny_take (i := 13) (v := ?_) rfl (by kernel_rfl) (by kernel_rfl) (by kernel_rfl) (getW_put 20 (by decide) _ _) (Or.inl ⟨by rfl, ?_⟩) ?_
  rotate_left 1
  · intro w; go_simp; try with_reducible rfl
  refine wpAny_done (by kernel_rfl) ?_ _
  by_cases hs : x = (C : Int)
  · have HSm := Lib.hid (HSum.out.2 hs)
    clear HSum
    go_wp2_with fail
    have hsz5 := HGd.out.lt
    have HGe := Lib.hid (HGd.out.grow ((Below.refl w5.heap.size w5).alloc (Nat.le_refl _) (Obj.cells #[.slice (some ad4) (bs.length - 4) (cap - 4)] 79)) (by omega))
    have HRe : Hid (RwAt (w5.alloc (Obj.cells #[.slice (some ad4) (bs.length - 4) (cap - 4)] 79)) w5.heap.size b (o + 4) (bs.drop 4).length (cap - 4) 0) := Lib.hid (by rw [hdl]; exact rwAt_new4 HAd.out (by omega) (by unfold maxLen; omega))
    have hbR5 : b < w5.heap.size := block_ge HGd.out.bel hbl
    have hRs : w5.heap.size < (w5.alloc (Obj.cells #[.slice (some ad4) (bs.length - 4) (cap - 4)] 79)).heap.size := by simp
    have hbw : b < (w5.alloc (Obj.cells #[.slice (some ad4) (bs.length - 4) (cap - 4)] 79)).heap.size := by omega
    have hbw2 : b < w.heap.size := hbl
    generalize w5.alloc (Obj.cells #[.slice (some ad4) (bs.length - 4) (cap - 4)] 79) = w6 at *
    obtain ⟨R5, hR5⟩ : ∃ R5, w5.heap.size = R5 := ⟨_, rfl⟩
    rw [hR5] at HRe hbR5 hRs hsz5
    rw [hR5]
    have X : RX w6 (bs.drop 4) R5 b := ⟨hRs, hbw, by omega, HBY.out.drop 4⟩
    refine (message_any (bs.drop 4) R5 b (o + 4) (cap - 4) w6 X HRe.out ((HBA.out.block (HGe.out.bel.block b hbl)).drop 4)).mono ?_
    clear X
    rintro e w7 (⟨hpok, ⟨iv, lv, dv, rfl, hoi, hol, hod⟩, hrd⟩ | ⟨hno, rfl, hrd⟩)
    rotate_left
    · have HNo : Hid (¬ OkM bs) := Lib.hid (fun h => hno h.1)
      have HGf := Lib.hid (HGe.out.grow (B := w.heap.size + 2) (hrd.below (by omega) (by omega)) (Nat.le_refl _))
      clear hno hrd
      go_wp2_with fail
      exact getW_bad HGf.out _ rfl rfl _ (fun w' hb => ⟨Or.inr (Or.inl ⟨HSm.out, HNo.out, rfl⟩), hb⟩)
    obtain ⟨M, hM⟩ : ∃ M, prsM (bs.drop 4) = M := ⟨_, rfl⟩
    have hF : gF (bs.drop 4) = M.F := by rw [← hM]; rfl
    have HMB : Hid (MsgB M) := Lib.hid (by rw [← hM]; exact msgB_prs (HBY.out.drop 4))
    have hoi' : OwnI w7 w6.heap.size iv M.ni M.I := by rw [← hM]; exact hoi
    have hol' : OwnL w7 w6.heap.size lv M.nl M.D := by rw [← hM]; exact hol
    have hod' : OwnB w7 w6.heap.size dv M.d := by rw [← hM]; exact hod
    have HM := Lib.hid hM
    have HPok := Lib.hid hpok
    have hTw : w.heap.size < w6.heap.size := by omega
    rw [hF]
    have HF := Lib.hid hF
    have HGf := Lib.hid (HGe.out.grow (B := w.heap.size + 2) (hrd.below (by omega) (by omega)) (Nat.le_refl _))
    have HGg := Lib.hid (HGf.out.put M.F iv lv dv)
    have hdw := rdW_set w.heap.size (msgL M.F iv lv dv) w7
    have HRow : Hid (RowsV (w7.setCells w.heap.size 0 (msgL M.F iv lv dv)) iv lv dv M) := Lib.hid ⟨(hoi'.rdW hdw hTw).inps, (hol'.rdW hdw hTw).ents, (hod'.rdW hdw hTw).bytes0⟩
    have H1 : Hid ((msgL M.F iv lv dv).toArray.all (·.oneCell') = true) := Lib.hid (msgL_one HRow.out M.F)
    have H7 : Hid (w7.there w.heap.size 0 (msgL M.F iv lv dv).toArray.size) := Lib.hid (by
      have e : (msgL M.F iv lv dv).toArray.size = 16 := by rw [List.size_toArray, msgL_len]
      rw [e]; exact HGf.out.th)
    have HOI := Lib.hid (hoi'.rdW hdw hTw)
    have HOL := Lib.hid (hol'.rdW hdw hTw)
    have HOD := Lib.hid (hod'.rdW hdw hTw)
    clear hoi hol hod hoi' hol' hod' hdw hM hF hpok hrd HGe HGd HRe
    obtain ⟨w8, hw8⟩ : ∃ w8, w7.setCells w.heap.size 0 (msgL M.F iv lv dv) = w8 := ⟨_, rfl⟩
    rw [hw8] at HGg HRow HOI HOL HOD
    have HW8 := Lib.hid hw8
    clear hw8 HGf
    go_wp2_with (first | (refine wpList_store_mid (op := ⟨none, Op.store 30 (.tmp 2) (.tmp 26), _, _, _, _⟩) rfl 30 _ _ rfl w.heap.size 0 (msgL M.F iv lv dv).toArray rfl rfl H7.out (by have e : (msgL M.F iv lv dv).toArray.size = (msgL M.F iv lv dv).length := List.size_toArray; rw [e]; exact size_msg _ _ _ _) H1.out ?_; rw [show (msgL M.F iv lv dv).toArray.toList = msgL M.F iv lv dv from rfl, HW8.out]) | (refine wpList_load_g (op := ⟨some 28, _, _, _, _, _⟩) (by rfl) 30 _ rfl w.heap.size 0 rfl _ _ HGg.out.msg.range Try.underlying30 rfl (size_msg _ _ _ _) ?_))
    clear H7 HW8
    rcases hmay : mayM M with _ | _
    · have HNo : Hid (¬ OkM bs) := Lib.hid (fun h => by have h2 := h.2.1; rw [HM.out, hmay] at h2; cases h2)
      refine (putM_no M iv lv dv w8 HRow.out hmay).mono ?_
      rintro e w9 ⟨rfl, hb9⟩
      have HG9 := Lib.hid (HGg.out.grow hb9 (by have := HGg.out.lt; omega))
      clear hb9
      go_wp2_with fail
      exact getW_bad HG9.out _ rfl rfl _ (fun w' hb => ⟨Or.inr (Or.inl ⟨HSm.out, HNo.out, rfl⟩), hb⟩)
    · refine (putM_yes M iv lv dv w8 HRow.out HMB.out hmay).mono ?_
      rintro e w9 ⟨⟨h12, rfl⟩ | ⟨h12, v9, rfl, ho9⟩, hb9⟩
      · have HNo : Hid (¬ OkM bs) := Lib.hid (fun h => by have h2 := h.2.2.1; rw [HM.out] at h2; omega)
        have HG9 := Lib.hid (HGg.out.grow hb9 (by have := HGg.out.lt; omega))
        clear hb9 h12
        go_wp2_with fail
        exact getW_bad HG9.out _ rfl rfl _ (fun w' hb => ⟨Or.inr (Or.inl ⟨HSm.out, HNo.out, rfl⟩), hb⟩)
      · have HG9 := Lib.hid (HGg.out.grow hb9 (by have := HGg.out.lt; omega))
        have HR9 := Lib.hid (HRow.out.below hb9 (Nat.le_refl _))
        have HO9 := Lib.hid ho9.bytes0
        have HV9 := Lib.hid (HV.out.below HG9.out.bel (Nat.le_refl _))
        have HL := Lib.hid h12
        have HOI9 := Lib.hid (HOI.out.rdW (rdW_of (R := w.heap.size) hb9 (Nat.le_refl _)) hTw)
        have HOL9 := Lib.hid (HOL.out.rdW (rdW_of (R := w.heap.size) hb9 (Nat.le_refl _)) hTw)
        have HOD9 := Lib.hid (HOD.out.rdW (rdW_of (R := w.heap.size) hb9 (Nat.le_refl _)) hTw)
        clear hb9 ho9 h12
        go_wp2_with fail
        refine (bytesEq_any v9 (.slice (some ⟨b, o, none⟩) bs.length cap) (putM M) bs w9 HO9.out HV9.out (putM_by HMB.out) HBY.out).mono ?_
        rintro e w10 ⟨rfl, rfl⟩
        by_cases heq : putM M = bs
        · have HOk : Hid (OkM bs) := Lib.hid ⟨HPok.out, by rw [HM.out]; exact hmay, by rw [HM.out]; exact HL.out, by rw [HM.out]; exact heq⟩
          rw [decide_eq_true heq]
          have HGh := Lib.hid (HG9.out.put M.F iv lv dv)
          have hdw9 := rdW_set w.heap.size (msgL M.F iv lv dv) w9
          have HOIh := Lib.hid (HOI9.out.rdW hdw9 hTw)
          have HOLh := Lib.hid (HOL9.out.rdW hdw9 hTw)
          have HODh := Lib.hid (HOD9.out.rdW hdw9 hTw)
          have hTw1 : w.heap.size + 1 < w6.heap.size := by omega
          have H9 : Hid (w9.there w.heap.size 0 (msgL M.F iv lv dv).toArray.size) := Lib.hid (by
            have e : (msgL M.F iv lv dv).toArray.size = 16 := by rw [List.size_toArray, msgL_len]
            rw [e]; exact HG9.out.th)
          clear hdw9
          obtain ⟨w11, hw11⟩ : ∃ w11, w9.setCells w.heap.size 0 (msgL M.F iv lv dv) = w11 := ⟨_, rfl⟩
          rw [hw11] at HGh HOIh HOLh HODh
          have HW11 := Lib.hid hw11
          have c3 := HGh.out.c3
          have f3 := HGh.out.f3
          clear hw11 heq hmay
          go_wp2_with (first | (refine wpList_load_g (op := ⟨some 42, _, _, _, _, _⟩) (by rfl) 30 _ rfl w.heap.size 0 rfl _ _ HG9.out.msg.range Try.underlying30 rfl (size_msg _ _ _ _) ?_) | (refine wpList_store_mid (op := ⟨none, Op.store 30 (.tmp 2) (.tmp 42), _, _, _, _⟩) rfl 30 _ _ rfl w.heap.size 0 (msgL M.F iv lv dv).toArray rfl rfl H9.out (by have e : (msgL M.F iv lv dv).toArray.size = (msgL M.F iv lv dv).length := List.size_toArray; rw [e]; exact size_msg _ _ _ _) H1.out ?_; rw [show (msgL M.F iv lv dv).toArray.toList = msgL M.F iv lv dv from rfl, HW11.out]))
          have HGk := Lib.hid (HGh.out.code 0)
          have hdk : RdW (w.heap.size + 1) w11 (w11.setCell ⟨w.heap.size + 1, 0, none⟩ (.int .i64 0)) := by
            have hb := (Below.refl (w.heap.size + 1) w11).setCell (p := ⟨w.heap.size + 1, 0, none⟩) (Nat.le_refl _) (.int .i64 0)
            exact ⟨hb.os, hb.tape, hb.output, hb.size, fun k _ hk => Below.heap_setCell _ _ _ _ (by show k ≠ w.heap.size + 1; exact hk)⟩
          have HRk : Hid (RowsV (w11.setCell ⟨w.heap.size + 1, 0, none⟩ (.int .i64 0)) iv lv dv M) := Lib.hid ⟨(HOIh.out.rdW hdk hTw1).inps, (HOLh.out.rdW hdk hTw1).ents, (HODh.out.rdW hdk hTw1).bytes0⟩
          exact getW_good HGk.out _ rfl rfl _ (fun w' hb => ⟨Or.inr (Or.inr ⟨HSm.out, HOk.out, iv, lv, dv, by rw [HF.out], by rw [HM.out]; exact HRk.out.below hb (Nat.le_refl _)⟩), HGk.out.bel.trans (hb.mono HGk.out.bel.size)⟩)
        · have HNo : Hid (¬ OkM bs) := Lib.hid (fun h => heq (by have h2 := h.2.2.2; rwa [HM.out] at h2))
          rw [decide_eq_false heq]
          clear heq
          go_wp2_with fail
          exact getW_bad HG9.out _ rfl rfl _ (fun w' hb => ⟨Or.inr (Or.inl ⟨HSm.out, HNo.out, rfl⟩), hb⟩)
  · have HNo : Hid (¬ SumOk bs) := Lib.hid (fun h => hs (HSum.out.1 h))
    clear HSum
    have HG2 := Lib.hid (HGd.out.put zF (.slice none 0 0) (.slice none 0 0) (.slice none 0 0))
    have H2 : Hid (w5.there w.heap.size 0 zL.toArray.size) := Lib.hid (by
      have e : zL.toArray.size = 16 := by unfold zL; rw [List.size_toArray, msgL_len]
      rw [e]; exact HGd.out.th)
    obtain ⟨w8, hw8⟩ : ∃ w8, w5.setCells w.heap.size 0 zL = w8 := ⟨_, rfl⟩
    have HW8 := Lib.hid hw8
    have HG3 : Hid (GX w zF (.slice none 0 0) (.slice none 0 0) (.slice none 0 0) 0 w8) := by rw [← hw8]; exact HG2
    clear HG2 HGd hw8
    have c3 := HG3.out.c3
    have f3 := HG3.out.f3
    go_wp2_with (refine wpList_store_mid rfl 30 _ _ rfl w.heap.size 0 zL.toArray rfl rfl H2.out (by have e : zL.toArray.size = zL.length := List.size_toArray; rw [e]; exact size_msg _ _ _ _) zL_one ?_; rw [show zL.toArray.toList = zL from rfl, HW8.out])
    exact getW_good (HG3.out.code 9) _ rfl rfl _ (fun w' hb => ⟨Or.inl ⟨HNo.out, rfl⟩, ((HG3.out.code 9).bel).trans (hb.mono (HG3.out.code 9).bel.size)⟩)
theorem getM_any (v : Value) (bs : List Int) (w : World) (hv : BytesV w v bs) (hby : ByteL bs) :
    Calls Try.prog 20 #[v] w fun e w' => GetQ bs e w' ∧ Below w.heap.size w w' := by
  by_cases h4 : bs.length < 4
  · exact getM_short v bs w hv hby h4
  · exact getM_long v bs w hv hby h4
end Go.Proofs.Ytembppihfcclcaa
