/-
  Wire: WireLogs's law.
-/
import Derived.Test.YtembppihfcclcaaNH
import Derived.Test.YtembppihfcclcaaX
import Derived.Deep.DeepCutAuto
namespace Go.Proofs.Ytembppihfcclcaa
set_option linter.unusedVariables false
open Go.ChangeShapes Go.WideShapes Go.ChangeAt Go.RowKit

set_option linter.unusedSimpArgs false
/-- What the two draws hold on to: the log's cell. -/
def SL (b : Nat) (v : Value) (w : World) : Prop := w.cell? ⟨b, 14, none⟩ = some v
theorem build_l5 (f : Int) (w : World) : (Instr.build 30 #[(0, .int .i64 5), (7, .int .i64 f)]).run Try.prog w = .ok (.agg (msgL (lF f) (.slice none 0 0) (.slice none 0 0) (.slice none 0 0)).toArray) w := by kernel_rfl
set_option maxRecDepth 100000 in
set_option maxHeartbeats 8000000 in
theorem law_WireLogs (a0 a1 a2 : Int) (w0 : (Lit.int .i64 a0).wf = true) (w1 : (Lit.int .i64 a1).wf = true) (w2 : (Lit.int .i64 a2).wf = true) (w : World) :
    Calls Try.prog 3 #[.int .i64 a0, .int .i64 a1, .int .i64 a2] w fun e w' => e = .returned (.bool true) ∧ Below w.heap.size w w' := by
  have hu0 : 0 ≤ IntKind.u64.wrap a0 := by simp [IntKind.wrap, IntKind.bits, IntKind.signed]; omega
  have hu1 : 0 ≤ IntKind.u64.wrap a1 := by simp [IntKind.wrap, IntKind.bits, IntKind.signed]; omega
  have hu2 : 0 ≤ IntKind.u64.wrap a2 := by simp [IntKind.wrap, IntKind.bits, IntKind.signed]; omega
  obtain ⟨f0, hf0, hF⟩ : ∃ f0 : Nat, f0 < 1048560 ∧ wrap64 (IntKind.u64.wrap a0 % ((1048560 : Nat) : Int)) = (f0 : Int) := by
    have h1 := Int.emod_nonneg (IntKind.u64.wrap a0) (show ((1048560 : Nat) : Int) ≠ 0 by omega)
    have h2 := Int.emod_lt_of_pos (IntKind.u64.wrap a0) (show 0 < ((1048560 : Nat) : Int) by omega)
    generalize IntKind.u64.wrap a0 % ((1048560 : Nat) : Int) = q at *
    refine ⟨q.toNat, by omega, ?_⟩
    unfold wrap64
    omega
  obtain ⟨k0, hk0, hK⟩ := cut_lt _ 16 hu1 (by omega) (by omega)
  obtain ⟨i, hi, hI⟩ := cut_lt _ (1 + k0) hu2 (by omega) (by omega)
  rw [← Int.tmod_eq_emod_of_nonneg hu0] at hF
  rw [← Int.tmod_eq_emod_of_nonneg hu1] at hK
  have hF' : wrap64 ((IntKind.u64.wrap a0).tmod 1048560) = (f0 : Int) := hF
  have hK' : wrap64 ((IntKind.u64.wrap a1).tmod 16) = (k0 : Int) := hK
  have hI2 : wrap64 ((IntKind.u64.wrap a2).tmod ((1 + k0 : Nat) : Int)) = (i : Int) := by rw [Int.tmod_eq_emod_of_nonneg hu2]; exact hI
  clear hF hK hu0 hu1 hu2
  go_enter Try.func3, Try.ntmps3
  go_upto_region 2 with (fail)
  rw [hF', hK']
  clear hF' hK'
  have hk1 : (1 : Int) + (k0 : Int) = ((1 + k0 : Nat) : Int) := by omega
  rw [hk1]
  clear hk1
  have hn : 1 ≤ 1 + k0 ∧ 1 + k0 ≤ 16 := by omega
  generalize 1 + k0 = n at *
  obtain ⟨hm1, hm2, hm3⟩ := logs_may (f0 : Int) n i (by omega) hn hi
  have HM1 := Lib.hid hm1
  have HM2 := Lib.hid hm2
  have HM3 := Lib.hid hm3
  clear hm1 hm2 hm3
  have HG : Hid (LG w w.heap.size (w.heap.size + 1) (lF f0) (.slice none 0 0) 0 (fE f0) (w.alloc (Obj.cells #[.int .i64 5, .int .i64 0, .int .u16 0, .int .u16 0, .int .u32 0, .int .i64 0, .int .i64 0, .int .i64 f0, .int .i64 0, .int .i64 0, .int .i64 0, .int .u32 0, .int .u64 0, .slice none 0 0, .slice none 0 0, .slice none 0 0] 30))) := Lib.hid (lg_new (w0 := w) (w := w) (F := lF f0) (Below.refl w.heap.size w) (Nat.le_refl _) (fE f0))
  go_wp2_with fail
  generalize w.alloc (Obj.cells #[.int .i64 5, .int .i64 0, .int .u16 0, .int .u16 0, .int .u32 0, .int .i64 0, .int .i64 0, .int .i64 f0, .int .i64 0, .int .i64 0, .int .i64 0, .int .u32 0, .int .u64 0, .slice none 0 0, .slice none 0 0, .slice none 0 0] 30) = wa at *
  go_loopw [10] (fun c wr => ∃ j : Nat, ∃ lv : Value, j ≤ n ∧ c = .int .i64 j ∧ LG w w.heap.size (w.heap.size + 1) (lF f0) lv j (fE f0) wr) (fun c _ => n - (intOf c).toNat)
  case atStart => exact ⟨0, _, by omega, rfl, HG.out⟩
  case round =>
    obtain ⟨j, lv, hj, rfl, hg⟩ := hrel
    clear HG
    have HG := Lib.hid hg
    clear hg
    by_cases hlt : j < n
    · have hki : (j : Int) < n := by omega
      have c14 := HG.out.msg.c14
      go_wp2_with (first | (refine wpList_build_fr ((f0 : Int) + (j : Int)) (by rfl) _ rfl rfl ?_) | (refine wpList_bs_ent ((f0 : Int) + (j : Int)) (.slice none 0 0) (fun _ => 0) (by rfl) _ rfl rfl ?_) | (at_builtin; refine wpList_app_en rfl (.tmp 32) (.tmp 37) rfl (w.heap.size + 1) lv j (fE f0) HG.out.ol (by omega) rfl HG.out.hB (.slice none 0 0) (HG.out.nilE _) (fun g hg => by cases hg) rfl rfl ?_))
      intro lv' w' hO hgr hob hform
      obtain ⟨g, cap, rfl⟩ := hform.out
      obtain ⟨hG', hc', hf'⟩ := HG.out.ent hO.out hgr.out
      have HG' := Lib.hid hG'
      clear hG' hO hgr hob c14 HG
      go_wp2_with fail
      exact ⟨⟨j + 1, _, by omega, by go_num, HG'.out⟩, by simp [intOf]; omega⟩
    have hjn : n = j := by omega
    subst hjn
    clear hlt hj
    obtain ⟨g, cap, hlv, hnc, hcm⟩ : ∃ g cap, lv = .slice (some ⟨g, 0, none⟩) n cap ∧ n ≤ cap ∧ cap ≤ maxLen := by
      obtain ⟨S, hrow, -⟩ := HG.out.ol.ex
      rcases hrow.2 with ⟨-, h0⟩ | ⟨g, cap, cur, hv, -, -, h3, h4, -⟩
      · omega
      · exact ⟨g, cap, hv, h3, h4⟩
    subst hlv
    unfold maxLen at hcm
    go_wp2_with (refine wpList_load_g (op := ⟨some 40, _, _, _, _, _⟩) (by rfl) 30 _ rfl w.heap.size 0 rfl _ _ HG.out.msg.range Try.underlying30 rfl (size_msg _ _ _ _) ?_)
    refine (mayM_any (lM f0 n (fE f0)) _ _ _ wr HG.out.rows).mono ?_
    rintro e wb ⟨rfl, hb⟩
    rw [HM1.out]
    replace HG := Lib.hid (HG.out.grow hb (Nat.le_refl _))
    clear hb
    have hin : (i : Int) ≤ cap := by omega
    have hi1 : (i : Int) + 1 ≤ n := by omega
    have hic : (i : Int) + 1 ≤ cap := by omega
    have hi0 : (0 : Int) ≤ i := by omega
    have hw1 : IntKind.i64.wrap ((i : Int) + 1) = (i : Int) + 1 := by
      simp [IntKind.wrap, IntKind.bits, IntKind.signed]
      omega
    have ht1 : ((i : Int) + 1).toNat = i + 1 := by omega
    have hg1 : (0 : Int) ≤ (i : Int) + 1 := by omega
    have hinn : (i : Int) ≤ n := by omega
    have HXX := Lib.hid (msgAt_new (lF f0) (.slice none 0 0) (.slice (some ⟨g, 0, none⟩) n cap) (.slice none 0 0) 30 wb)
    have hone := msgL_one HG.out.rows (lF f0)
    have hb0 := (Below.refl wb.heap.size wb).alloc (Nat.le_refl _) (Obj.cells (msgL (lF f0) (.slice none 0 0) (.slice (some ⟨g, 0, none⟩) n cap) (.slice none 0 0)).toArray 30)
    have ht0 : (wb.alloc (Obj.cells (msgL (lF f0) (.slice none 0 0) (.slice (some ⟨g, 0, none⟩) n cap) (.slice none 0 0)).toArray 30)).there wb.heap.size 0 16 := there_alloc_lit _ _ _ _ (by
      have e : (msgL (lF f0) (.slice none 0 0) (.slice (some ⟨g, 0, none⟩) n cap) (.slice none 0 0)).toArray.size = 16 := by rw [List.size_toArray, msgL_len]
      rw [e]; exact Nat.le_refl _)
    go_wp2_with (first | (refine wpList_load_g (op := ⟨some 48, _, _, _, _, _⟩) (by rfl) 30 _ rfl w.heap.size 0 rfl _ _ HG.out.msg.range Try.underlying30 rfl (size_msg _ _ _ _) ?_) | (refine wpList_store_msg (op := ⟨none, Op.store 30 (.tmp 13) (.tmp 48), _, _, _, _⟩) rfl (.tmp 13) (.tmp 48) rfl (lF f0) (.slice none 0 0) (.slice (some ⟨g, 0, none⟩) n cap) (.slice none 0 0) hone wb wb.heap.size rfl rfl rfl ?_))
    clear hone
    generalize wb.alloc (Obj.cells (msgL (lF f0) (.slice none 0 0) (.slice (some ⟨g, 0, none⟩) n cap) (.slice none 0 0)).toArray 30) = W0 at *
    have hC0 : SL w.heap.size (.slice (some ⟨g, 0, none⟩) n cap) W0.drew := (World.cell?_of_block (a := ⟨w.heap.size, 14, none⟩) (hb0.block w.heap.size HG.out.msg.lt)).trans HG.out.msg.c14
    refine wp_region_held (S := SL w.heap.size (.slice (some ⟨g, 0, none⟩) n cap)) (by kernel_rfl) ?_
    change wpAnyH _ _ _ _ _ _ _ _ (World.drew _)
    have hS := hC0
    obtain ⟨ad2, hif, had⟩ : ∃ ad2 : Addr, (if cap = (i + 1) then some (⟨g, 0, none⟩ : Addr) else some ⟨g, (i + 1) * 26, none⟩) = some ad2 ∧ (0 < n - (i + 1) → ad2 = ⟨g, (i + 1) * 26, none⟩) := by
      by_cases hc : cap = (i + 1)
      · exact ⟨⟨g, 0, none⟩, if_pos hc, fun h => by omega⟩
      · exact ⟨⟨g, (i + 1) * 26, none⟩, if_neg hc, fun _ => rfl⟩
    have HAd := Lib.hid had
    clear had
    refine wpAnyH_take (i := 1) (v := ?_) rfl (by kernel_rfl) (by kernel_rfl) (by kernel_rfl) (fun _ _ _ h => h) (Or.inl ⟨by rfl, ?_⟩) hS ?_
    rotate_left 1
    · intro w d0; unfold SL at d0; go_simp; try with_reducible rfl
    refine wpAnyH_take (i := 2) (v := ?_) rfl (by kernel_rfl) (by kernel_rfl) (by kernel_rfl) (fun _ _ _ h => h) (Or.inl ⟨by rfl, ?_⟩) hS ?_
    rotate_left 1
    · intro w d0; unfold SL at d0; go_simp; try with_reducible rfl
    refine wpAnyH_take (i := 3) (v := ?_) rfl (by kernel_rfl) (by kernel_rfl) (by kernel_rfl) (fun _ _ _ h => h) (Or.inl ⟨by rfl, ?_⟩) hS ?_
    rotate_left 1
    · intro w d0; unfold SL at d0; go_simp; try with_reducible rfl
    refine wpAnyH_take (i := 4) (v := ?_) rfl (by kernel_rfl) (by kernel_rfl) (by kernel_rfl) (fun _ _ _ h => h) (Or.inl ⟨by rfl, ?_⟩) hS ?_
    rotate_left 1
    · intro w d0; unfold SL at d0; go_simp; try with_reducible rfl
    refine wpAnyH_take (i := 6) (v := ?_) rfl (by kernel_rfl) (by kernel_rfl) (by kernel_rfl) (fun _ _ _ h => h) (Or.inl ⟨by rfl, ?_⟩) hS ?_
    rotate_left 1
    · intro w d0; unfold SL at d0; go_simp; try with_reducible rfl
    refine wpAnyH_take (i := 7) (v := ?_) rfl (by kernel_rfl) (by kernel_rfl) (by kernel_rfl) (fun _ _ _ h => h) (Or.inl ⟨by rfl, ?_⟩) hS ?_
    rotate_left 1
    · intro w d0; unfold SL at d0; go_simp; try with_reducible rfl
    refine wpAnyH_take (i := 8) (v := ?_) rfl (by kernel_rfl) (by kernel_rfl) (by kernel_rfl) (fun _ _ _ h => h) (Or.inl ⟨by rfl, ?_⟩) hS ?_
    rotate_left 1
    · intro w d0; unfold SL at d0; go_simp; try with_reducible rfl
    refine wpAnyH_take (i := 9) (v := ?_) rfl (by kernel_rfl) (by kernel_rfl) (by kernel_rfl) (fun _ _ _ h => h) (Or.inl ⟨by rfl, ?_⟩) hS ?_
    rotate_left 1
    · intro w d0; unfold SL at d0; go_simp; try with_reducible rfl
    refine wpAnyH_take (i := 10) (v := ?_) rfl (by kernel_rfl) (by kernel_rfl) (by kernel_rfl) (fun _ _ _ h => h) (Or.inl ⟨by rfl, ?_⟩) hS ?_
    rotate_left 1
    · intro w d0; unfold SL at d0; go_simp; try with_reducible rfl
    clear hif
    refine wpAnyH_ready (rs := [0]) (by kernel_rfl) (by simp) ?_
    refine AllReadyH.cons rfl (fun K hK => ?_) AllReadyH.nil
    go_simp
    have hsW0 : wb.heap.size < W0.heap.size := HXX.out.lt
    have HZ1 : Hid (ZL (W0.alloc (Obj.cells #[] 37)).drew W0.heap.size (.slice (some ⟨W0.heap.size, 0, none⟩) 0 0) 0 (fE f0)) := Lib.hid (zl_made (w := W0.drew) (fE f0))
    have hbE : Below W0.heap.size W0 (W0.alloc (Obj.cells #[] 37)).drew := ((Below.refl W0.heap.size W0).alloc (Nat.le_refl _) (Obj.cells #[] 37)).drew
    have hmT : w.heap.size < W0.heap.size := by have := HG.out.msg.lt; have := hb0.size; omega
    have hC1 : SL w.heap.size (.slice (some ⟨g, 0, none⟩) n cap) (W0.alloc (Obj.cells #[] 37)).drew := (World.cell?_of_block (a := ⟨w.heap.size, 14, none⟩) (hbE.block w.heap.size hmT)).trans hC0
    have hsE : W0.heap.size + 1 = (W0.alloc (Obj.cells #[] 37)).drew.heap.size := by show _ = (W0.alloc (Obj.cells #[] 37)).heap.size; simp
    generalize hWE : (W0.alloc (Obj.cells #[] 37)).drew = W1 at *
    have hb1 := hb0.trans (hbE.mono (Nat.le_of_lt hsW0))
    have hGm := HG.out.grow hb1 (Nat.le_refl _)
    have HSrc1 := Lib.hid ((hGm.ol.zl (fun _ _ => rfl)).src 0 (i) (by omega))
    clear hWE hGm
    refine hK.out _ _ hC1 (fun hS => ?_)
    clear hK K
    refine wpAnyH_ready (rs := [5]) (by kernel_rfl) (by simp) ?_
    refine AllReadyH.cons rfl (fun K hK => ?_) AllReadyH.nil
    refine step_app_many rfl (.tmp 49) (.tmp 53) rfl W0.heap.size (.slice (some ⟨W0.heap.size, 0, none⟩) 0 0) 0 (fE f0) HZ1.out ⟨_, _, rfl⟩ (by omega) (by simp [Act.eval, Act.put]) (by omega) ⟨g, 0 * 26, none⟩ (i) cap (fun j => fE f0 (0 + j)) HSrc1.out (by omega) (by simp [Act.eval, Act.put]) ?_
    intro v2 W2 hZ2 hg2 hf2
    have hbe2 := HZ1.out.belowG hg2.out (by omega)
    have hZ2' := zl_first hZ2.out
    obtain ⟨g2, cap2, hv2⟩ := hf2.out
    rw [Nat.zero_add] at hv2
    subst hv2
    have hb2 := hb1.trans (hbe2.mono (Nat.le_of_lt hsW0))
    have hs2 : W0.heap.size ≤ W2.heap.size := by have := hbe2.size; omega
    have hC2 : SL w.heap.size (.slice (some ⟨g, 0, none⟩) n cap) W2 := (World.cell?_of_block (a := ⟨w.heap.size, 14, none⟩) (hbe2.block w.heap.size hmT)).trans hC1
    have hGm := HG.out.grow hb2 (Nat.le_refl _)
    have HSrc2 : Hid (Src W2 ad2 (n - (i + 1)) (fun j => fE f0 (i + 1 + j))) := Lib.hid (by
      by_cases h0 : 0 < n - (i + 1)
      · rw [HAd.out h0]
        exact (hGm.ol.zl (fun _ _ => rfl)).src (i + 1) (n - (i + 1)) (by omega)
      · rw [show n - (i + 1) = 0 by omega]
        exact src_zero _ _ _)
    clear hGm hg2 hZ2 hf2
    refine hK.out _ _ hC2 (fun hS => ?_)
    clear hK K
    refine wpAnyH_ready (rs := [11]) (by kernel_rfl) (by simp) ?_
    refine AllReadyH.cons rfl (fun K hK => ?_) AllReadyH.nil
    refine step_app_many rfl (.tmp 54) (.tmp 59) rfl W0.heap.size (.slice (some ⟨g2, 0, none⟩) (i) cap2) (i) (fun j => fE f0 (0 + j)) hZ2' ⟨_, _, rfl⟩ (by omega) (by simp [Act.eval, Act.put]) hs2 ad2 (n - (i + 1)) (cap - (i + 1)) (fun j => fE f0 (i + 1 + j)) HSrc2.out (by omega) (by simp [Act.eval, Act.put]) ?_
    intro v3 W3 hZ3 hg3 hf3
    have hbe3 := hZ2'.belowG hg3.out hs2
    obtain ⟨g3, cap3, hv3⟩ := hf3.out
    subst hv3
    have hbe : Below W0.heap.size W0 W3 := (hbE.trans hbe2).trans hbe3
    have hb3 := hb2.trans (hbe3.mono (Nat.le_of_lt hsW0))
    have hC3 : SL w.heap.size (.slice (some ⟨g, 0, none⟩) n cap) W3 := (World.cell?_of_block (a := ⟨w.heap.size, 14, none⟩) (hbe3.block w.heap.size hmT)).trans hC2
    have hX3 := HXX.out.block (hbe.block wb.heap.size hsW0)
    have ht3 := there_block ht0 (hbe.block wb.heap.size hsW0)
    have cx := hX3.c14
    have fx : W3.frozen? ⟨wb.heap.size, 14, none⟩ = false := by have := (ht3 14 (by omega)).2; rwa [Nat.zero_add] at this
    have hOn := (Only.refl wb.heap.size W3).setCell (p := ⟨wb.heap.size, 14, none⟩) rfl (.slice (some ⟨g3, 0, none⟩) (i + (n - (i + 1))) cap3)
    have hmb : w.heap.size < wb.heap.size := HG.out.msg.lt
    have hC4 : SL w.heap.size (.slice (some ⟨g, 0, none⟩) n cap) (W3.setCell ⟨wb.heap.size, 14, none⟩ (.slice (some ⟨g3, 0, none⟩) (i + (n - (i + 1))) cap3)) := (World.cell?_of_block (a := ⟨w.heap.size, 14, none⟩) (hOn.block w.heap.size (by omega))).trans hC3
    have HXX' := Lib.hid (hX3.setL (.slice (some ⟨g3, 0, none⟩) (i + (n - (i + 1))) cap3))
    have HZX' := Lib.hid (hZ3.out.other hOn hsW0)
    have hb4 := hb3.setCell (p := ⟨wb.heap.size, 14, none⟩) (Nat.le_refl _) (.slice (some ⟨g3, 0, none⟩) (i + (n - (i + 1))) cap3)
    have HG' := Lib.hid (HG.out.grow hb4 (Nat.le_refl _))
    have HBX := Lib.hid hb4
    refine hK.out _ _ hC3 (fun hS => ?_)
    clear hK K
    refine wpAnyH_take (i := 12) (v := ?_) rfl (by kernel_rfl) (by kernel_rfl) (by kernel_rfl) (fun _ _ _ h => h) (Or.inl ⟨by rfl, ?_⟩) hS ?_
    rotate_left 1
    · intro w d0; go_simp; try with_reducible rfl
    refine wpAnyH_ready (rs := [13]) (by kernel_rfl) (by simp) ?_
    refine AllReadyH.cons rfl (fun K hK => ?_) AllReadyH.nil
    go_simp
    refine hK.out _ _ hC4 (fun hS => ?_)
    clear hK K
    refine wpAnyH_done (by kernel_rfl) ?_ _
    clear hS hC0 hC1 hC2 hC3 hC4 HG hb0 hb1 hb2 hb3 hb4 hbE hbe hbe2 hbe3 hOn hX3 ht3 ht0 cx fx HSrc1 HSrc2 HZ1 hZ2' hZ3 hg3 hf3 HXX HAd hsW0 hs2 hsE hmT
    generalize W3.setCell ⟨wb.heap.size, 14, none⟩ (.slice (some ⟨g3, 0, none⟩) (i + (n - (i + 1))) cap3) = wx at *
    have HG := HG'
    clear HG'
    have HXY := Lib.hid (msgAt_new (lF f0) (.slice none 0 0) (.slice (some ⟨g, 0, none⟩) n cap) (.slice none 0 0) 30 wx)
    have hone := msgL_one HG.out.rows (lF f0)
    have hb0 := (Below.refl wx.heap.size wx).alloc (Nat.le_refl _) (Obj.cells (msgL (lF f0) (.slice none 0 0) (.slice (some ⟨g, 0, none⟩) n cap) (.slice none 0 0)).toArray 30)
    have ht0 : (wx.alloc (Obj.cells (msgL (lF f0) (.slice none 0 0) (.slice (some ⟨g, 0, none⟩) n cap) (.slice none 0 0)).toArray 30)).there wx.heap.size 0 16 := there_alloc_lit _ _ _ _ (by
      have e : (msgL (lF f0) (.slice none 0 0) (.slice (some ⟨g, 0, none⟩) n cap) (.slice none 0 0)).toArray.size = 16 := by rw [List.size_toArray, msgL_len]
      rw [e]; exact Nat.le_refl _)
    go_wp2_with (first | (refine wpList_load_g (op := ⟨some 62, _, _, _, _, _⟩) (by rfl) 30 _ rfl w.heap.size 0 rfl _ _ HG.out.msg.range Try.underlying30 rfl (size_msg _ _ _ _) ?_) | (refine wpList_store_msg (op := ⟨none, Op.store 30 (.tmp 14) (.tmp 62), _, _, _, _⟩) rfl (.tmp 14) (.tmp 62) rfl (lF f0) (.slice none 0 0) (.slice (some ⟨g, 0, none⟩) n cap) (.slice none 0 0) hone wx wx.heap.size rfl rfl rfl ?_))
    clear hone
    generalize wx.alloc (Obj.cells (msgL (lF f0) (.slice none 0 0) (.slice (some ⟨g, 0, none⟩) n cap) (.slice none 0 0)).toArray 30) = W0 at *
    have hC0 : SL w.heap.size (.slice (some ⟨g, 0, none⟩) n cap) W0.drew := (World.cell?_of_block (a := ⟨w.heap.size, 14, none⟩) (hb0.block w.heap.size HG.out.msg.lt)).trans HG.out.msg.c14
    refine wp_region_held (S := SL w.heap.size (.slice (some ⟨g, 0, none⟩) n cap)) (by kernel_rfl) ?_
    change wpAnyH _ _ _ _ _ _ _ _ (World.drew _)
    have hS := hC0
    obtain ⟨ad2, hif, had⟩ : ∃ ad2 : Addr, (if cap = i then some (⟨g, 0, none⟩ : Addr) else some ⟨g, i * 26, none⟩) = some ad2 ∧ (0 < n - i → ad2 = ⟨g, i * 26, none⟩) := by
      by_cases hc : cap = i
      · exact ⟨⟨g, 0, none⟩, if_pos hc, fun h => by omega⟩
      · exact ⟨⟨g, i * 26, none⟩, if_neg hc, fun _ => rfl⟩
    have HAd := Lib.hid had
    clear had
    refine wpAnyH_take (i := 1) (v := ?_) rfl (by kernel_rfl) (by kernel_rfl) (by kernel_rfl) (fun _ _ _ h => h) (Or.inl ⟨by rfl, ?_⟩) hS ?_
    rotate_left 1
    · intro w d0; unfold SL at d0; go_simp; try with_reducible rfl
    refine wpAnyH_take (i := 2) (v := ?_) rfl (by kernel_rfl) (by kernel_rfl) (by kernel_rfl) (fun _ _ _ h => h) (Or.inl ⟨by rfl, ?_⟩) hS ?_
    rotate_left 1
    · intro w d0; unfold SL at d0; go_simp; try with_reducible rfl
    refine wpAnyH_take (i := 3) (v := ?_) rfl (by kernel_rfl) (by kernel_rfl) (by kernel_rfl) (fun _ _ _ h => h) (Or.inl ⟨by rfl, ?_⟩) hS ?_
    rotate_left 1
    · intro w d0; unfold SL at d0; go_simp; try with_reducible rfl
    refine wpAnyH_take (i := 4) (v := ?_) rfl (by kernel_rfl) (by kernel_rfl) (by kernel_rfl) (fun _ _ _ h => h) (Or.inl ⟨by rfl, ?_⟩) hS ?_
    rotate_left 1
    · intro w d0; unfold SL at d0; go_simp; try with_reducible rfl
    refine wpAnyH_take (i := 5) (v := ?_) rfl (by kernel_rfl) (by kernel_rfl) (by kernel_rfl) (fun _ _ _ h => h) (Or.inl ⟨by rfl, ?_⟩) hS ?_
    rotate_left 1
    · intro w d0; unfold SL at d0; go_simp; try with_reducible rfl
    refine wpAnyH_take (i := 7) (v := ?_) rfl (by kernel_rfl) (by kernel_rfl) (by kernel_rfl) (fun _ _ _ h => h) (Or.inl ⟨by rfl, ?_⟩) hS ?_
    rotate_left 1
    · intro w d0; unfold SL at d0; go_simp; try with_reducible rfl
    refine wpAnyH_take (i := 8) (v := ?_) rfl (by kernel_rfl) (by kernel_rfl) (by kernel_rfl) (fun _ _ _ h => h) (Or.inl ⟨by rfl, ?_⟩) hS ?_
    rotate_left 1
    · intro w d0; unfold SL at d0; go_simp; try with_reducible rfl
    refine wpAnyH_take (i := 9) (v := ?_) rfl (by kernel_rfl) (by kernel_rfl) (by kernel_rfl) (fun _ _ _ h => h) (Or.inl ⟨by rfl, ?_⟩) hS ?_
    rotate_left 1
    · intro w d0; unfold SL at d0; go_simp; try with_reducible rfl
    refine wpAnyH_take (i := 10) (v := ?_) rfl (by kernel_rfl) (by kernel_rfl) (by kernel_rfl) (fun _ _ _ h => h) (Or.inl ⟨by rfl, ?_⟩) hS ?_
    rotate_left 1
    · intro w d0; unfold SL at d0; go_simp; try with_reducible rfl
    clear hif
    refine wpAnyH_ready (rs := [0]) (by kernel_rfl) (by simp) ?_
    refine AllReadyH.cons rfl (fun K hK => ?_) AllReadyH.nil
    go_simp
    have hsW0 : wx.heap.size < W0.heap.size := HXY.out.lt
    have HZ1 : Hid (ZL (W0.alloc (Obj.cells #[] 37)).drew W0.heap.size (.slice (some ⟨W0.heap.size, 0, none⟩) 0 0) 0 (fE f0)) := Lib.hid (zl_made (w := W0.drew) (fE f0))
    have hbE : Below W0.heap.size W0 (W0.alloc (Obj.cells #[] 37)).drew := ((Below.refl W0.heap.size W0).alloc (Nat.le_refl _) (Obj.cells #[] 37)).drew
    have hmT : w.heap.size < W0.heap.size := by have := HG.out.msg.lt; have := hb0.size; omega
    have hC1 : SL w.heap.size (.slice (some ⟨g, 0, none⟩) n cap) (W0.alloc (Obj.cells #[] 37)).drew := (World.cell?_of_block (a := ⟨w.heap.size, 14, none⟩) (hbE.block w.heap.size hmT)).trans hC0
    have hsE : W0.heap.size + 1 = (W0.alloc (Obj.cells #[] 37)).drew.heap.size := by show _ = (W0.alloc (Obj.cells #[] 37)).heap.size; simp
    generalize hWE : (W0.alloc (Obj.cells #[] 37)).drew = W1 at *
    have hb1 := hb0.trans (hbE.mono (Nat.le_of_lt hsW0))
    have hGm := HG.out.grow hb1 (Nat.le_refl _)
    have HSrc1 := Lib.hid ((hGm.ol.zl (fun _ _ => rfl)).src 0 (i + 1) (by omega))
    clear hWE hGm
    refine hK.out _ _ hC1 (fun hS => ?_)
    clear hK K
    refine wpAnyH_ready (rs := [6]) (by kernel_rfl) (by simp) ?_
    refine AllReadyH.cons rfl (fun K hK => ?_) AllReadyH.nil
    refine step_app_many rfl (.tmp 63) (.tmp 68) rfl W0.heap.size (.slice (some ⟨W0.heap.size, 0, none⟩) 0 0) 0 (fE f0) HZ1.out ⟨_, _, rfl⟩ (by omega) (by simp [Act.eval, Act.put]) (by omega) ⟨g, 0 * 26, none⟩ (i + 1) cap (fun j => fE f0 (0 + j)) HSrc1.out (by omega) (by simp [Act.eval, Act.put]) ?_
    intro v2 W2 hZ2 hg2 hf2
    have hbe2 := HZ1.out.belowG hg2.out (by omega)
    have hZ2' := zl_first hZ2.out
    obtain ⟨g2, cap2, hv2⟩ := hf2.out
    rw [Nat.zero_add] at hv2
    subst hv2
    have hb2 := hb1.trans (hbe2.mono (Nat.le_of_lt hsW0))
    have hs2 : W0.heap.size ≤ W2.heap.size := by have := hbe2.size; omega
    have hC2 : SL w.heap.size (.slice (some ⟨g, 0, none⟩) n cap) W2 := (World.cell?_of_block (a := ⟨w.heap.size, 14, none⟩) (hbe2.block w.heap.size hmT)).trans hC1
    have hGm := HG.out.grow hb2 (Nat.le_refl _)
    have HSrc2 : Hid (Src W2 ad2 (n - i) (fun j => fE f0 (i + j))) := Lib.hid (by
      by_cases h0 : 0 < n - i
      · rw [HAd.out h0]
        exact (hGm.ol.zl (fun _ _ => rfl)).src i (n - i) (by omega)
      · rw [show n - i = 0 by omega]
        exact src_zero _ _ _)
    clear hGm hg2 hZ2 hf2
    refine hK.out _ _ hC2 (fun hS => ?_)
    clear hK K
    refine wpAnyH_ready (rs := [11]) (by kernel_rfl) (by simp) ?_
    refine AllReadyH.cons rfl (fun K hK => ?_) AllReadyH.nil
    refine step_app_many rfl (.tmp 69) (.tmp 73) rfl W0.heap.size (.slice (some ⟨g2, 0, none⟩) (i + 1) cap2) (i + 1) (fun j => fE f0 (0 + j)) hZ2' ⟨_, _, rfl⟩ (by omega) (by simp [Act.eval, Act.put]) hs2 ad2 (n - i) (cap - i) (fun j => fE f0 (i + j)) HSrc2.out (by omega) (by simp [Act.eval, Act.put]) ?_
    intro v3 W3 hZ3 hg3 hf3
    have hbe3 := hZ2'.belowG hg3.out hs2
    obtain ⟨g3, cap3, hv3⟩ := hf3.out
    subst hv3
    have hbe : Below W0.heap.size W0 W3 := (hbE.trans hbe2).trans hbe3
    have hb3 := hb2.trans (hbe3.mono (Nat.le_of_lt hsW0))
    have hC3 : SL w.heap.size (.slice (some ⟨g, 0, none⟩) n cap) W3 := (World.cell?_of_block (a := ⟨w.heap.size, 14, none⟩) (hbe3.block w.heap.size hmT)).trans hC2
    have hX3 := HXY.out.block (hbe.block wx.heap.size hsW0)
    have ht3 := there_block ht0 (hbe.block wx.heap.size hsW0)
    have cx := hX3.c14
    have fx : W3.frozen? ⟨wx.heap.size, 14, none⟩ = false := by have := (ht3 14 (by omega)).2; rwa [Nat.zero_add] at this
    have hOn := (Only.refl wx.heap.size W3).setCell (p := ⟨wx.heap.size, 14, none⟩) rfl (.slice (some ⟨g3, 0, none⟩) (i + 1 + (n - i)) cap3)
    have hmb : w.heap.size < wx.heap.size := HG.out.msg.lt
    have hC4 : SL w.heap.size (.slice (some ⟨g, 0, none⟩) n cap) (W3.setCell ⟨wx.heap.size, 14, none⟩ (.slice (some ⟨g3, 0, none⟩) (i + 1 + (n - i)) cap3)) := (World.cell?_of_block (a := ⟨w.heap.size, 14, none⟩) (hOn.block w.heap.size (by omega))).trans hC3
    have HXY' := Lib.hid (hX3.setL (.slice (some ⟨g3, 0, none⟩) (i + 1 + (n - i)) cap3))
    have HZY' := Lib.hid (hZ3.out.other hOn hsW0)
    have hb4 := hb3.setCell (p := ⟨wx.heap.size, 14, none⟩) (Nat.le_refl _) (.slice (some ⟨g3, 0, none⟩) (i + 1 + (n - i)) cap3)
    have HG' := Lib.hid (HG.out.grow hb4 (Nat.le_refl _))
    have HBY := Lib.hid hb4
    refine hK.out _ _ hC3 (fun hS => ?_)
    clear hK K
    refine wpAnyH_take (i := 12) (v := ?_) rfl (by kernel_rfl) (by kernel_rfl) (by kernel_rfl) (fun _ _ _ h => h) (Or.inl ⟨by rfl, ?_⟩) hS ?_
    rotate_left 1
    · intro w d0; go_simp; try with_reducible rfl
    refine wpAnyH_ready (rs := [13]) (by kernel_rfl) (by simp) ?_
    refine AllReadyH.cons rfl (fun K hK => ?_) AllReadyH.nil
    go_simp
    refine hK.out _ _ hC4 (fun hS => ?_)
    clear hK K
    refine wpAnyH_done (by kernel_rfl) ?_ _
    clear hS hC0 hC1 hC2 hC3 hC4 HG hb0 hb1 hb2 hb3 hb4 hbE hbe hbe2 hbe3 hOn hX3 ht3 ht0 cx fx HSrc1 HSrc2 HZ1 hZ2' hZ3 hg3 hf3 HXY HAd hsW0 hs2 hsE hmT
    generalize W3.setCell ⟨wx.heap.size, 14, none⟩ (.slice (some ⟨g3, 0, none⟩) (i + 1 + (n - i)) cap3) = wy at *
    have HG := HG'
    clear HG'
    have HXa := Lib.hid (HXX'.out.block (HBY.out.block wb.heap.size HXX'.out.lt))
    have HRa := Lib.hid (show RowsV wy (.slice none 0 0) _ (.slice none 0 0) (lM f0 (i + (n - (i + 1))) (catD (fun j => fE f0 (0 + j)) i (fun j => fE f0 (i + 1 + j)))) from ⟨(rows_nil wy zF).i, (HZX'.out.below HBY.out (Nat.le_refl _)).ents, bytesV_nil wy⟩)
    have HYa := HXY'
    have HRb := Lib.hid (show RowsV wy (.slice none 0 0) _ (.slice none 0 0) (lM f0 (i + 1 + (n - i)) (catD (fun j => fE f0 (0 + j)) (i + 1) (fun j => fE f0 (i + j)))) from ⟨(rows_nil wy zF).i, HZY'.out.ents, bytesV_nil wy⟩)
    have HME : Hid (mayE (fE f0 0).fr (fE f0 0).n (fE f0 0).E (fE f0 0).I = true) := Lib.hid (fE_may f0 0 (by omega))
    have HEB : Hid (EntB (fE f0 0).fr (fE f0 0).n (fE f0 0).E (fE f0 0).I) := Lib.hid (by
      refine ⟨?_, fun j hj => absurd hj (Nat.not_lt_zero _), fun k _ _ => ?_, fun k _ _ => ?_⟩
      · show _ ≤ (f0 : Int) + ((0 : Nat) : Int) ∧ (f0 : Int) + ((0 : Nat) : Int) ≤ _; omega
      · show (-128 : Int) ≤ 0 ∧ (0 : Int) ≤ 127; omega
      · show (0 : Int) ≤ 0 ∧ (0 : Int) ≤ 255; omega)
    clear HXX' HZX' HBX HXY' HZY' HBY
    go_wp2_with fail
    refine (told_law _).mono ?_
    rintro e wt ⟨rfl, hb⟩
    replace HG := Lib.hid (HG.out.grow hb (Nat.le_refl _))
    replace HXa := Lib.hid (HXa.out.block (hb.block _ HXa.out.lt))
    replace HRa := Lib.hid (HRa.out.below hb (Nat.le_refl _))
    replace HYa := Lib.hid (HYa.out.block (hb.block _ HYa.out.lt))
    replace HRb := Lib.hid (HRb.out.below hb (Nat.le_refl _))
    clear hb
    go_wp2_with (refine wpList_load_g (op := ⟨some 81, _, _, _, _, _⟩) (by rfl) 30 _ rfl wb.heap.size 0 rfl _ _ HXa.out.range Try.underlying30 rfl (size_msg _ _ _ _) ?_)
    refine (mayM_any (lM f0 (i + (n - (i + 1))) (catD (fun j => fE f0 (0 + j)) i (fun j => fE f0 (i + 1 + j)))) _ _ _ wt HRa.out).mono ?_
    rintro e wu ⟨rfl, hb⟩
    rw [HM2.out]
    replace HG := Lib.hid (HG.out.grow hb (Nat.le_refl _))
    replace HYa := Lib.hid (HYa.out.block (hb.block _ HYa.out.lt))
    replace HRb := Lib.hid (HRb.out.below hb (Nat.le_refl _))
    clear hb
    clear HXa HRa HM1 HM2
    by_cases h1 : i = n - 1
    · have e1 : ((i : Int) == (n : Int) - 1) = true := by rw [beq_iff_eq]; omega
      rw [decide_eq_true h1, Bool.true_and]
      clear h1
      by_cases h2 : 1 < n
      · have h2' : (1 : Int) < n := by omega
        rw [decide_eq_true h2]
        clear h2
        go_wp2_with (refine wpList_load_g (op := ⟨some 94, _, _, _, _, _⟩) (by rfl) 30 _ rfl wx.heap.size 0 rfl _ _ HYa.out.range Try.underlying30 rfl (size_msg _ _ _ _) ?_)
        refine (mayM_any (lM f0 (i + 1 + (n - i)) (catD (fun j => fE f0 (0 + j)) (i + 1) (fun j => fE f0 (i + j)))) _ _ _ wu HRb.out).mono ?_
        rintro e wz ⟨rfl, hb⟩
        rw [HM3.out]
        replace HG := Lib.hid (HG.out.grow hb (Nat.le_refl _))
        clear hb
        clear HYa HRb
        obtain ⟨sv, hen, hes⟩ : ∃ sv, EntAt wz g 0 (fE f0 0).fr sv (fE f0 0).I ∧ EvsV wz sv (fE f0 0).n (fE f0 0).E := by
          obtain ⟨a, c, e, -, -, h3⟩ := HG.out.ol.ents
          obtain ⟨b, o, e2, hlt, h4⟩ := h3 (by omega)
          injection e with e3 e4 e5
          rw [e2] at e3
          injection e3 with e3
          injection e3 with e6 e7
          subst e6
          subst e7
          obtain ⟨sv, h5, h6⟩ := h4 0 (by omega)
          exact ⟨sv, h5, h6⟩
        have HEn := Lib.hid hen
        have HEs := Lib.hid hes
        have c14 := HG.out.msg.c14
        have hn0 : (0 : Int) < n := by omega
        clear hen hes
        go_wp2_with (refine wpList_load_g (op := ⟨some 102, _, _, _, _, _⟩) (by rfl) 37 _ rfl g 0 rfl _ _ HEn.out.range Try.underlying37 rfl (size_ent _ _ _) ?_)
        refine (mayRef_any (fE f0 0).fr sv (fE f0 0).n (fE f0 0).E (fE f0 0).I wz HEs.out HEB.out).mono ?_
        rintro e wq ⟨rfl, hb⟩
        rw [HME.out]
        replace HG := Lib.hid (HG.out.grow hb (Nat.le_refl _))
        clear hb
        go_wp2_with fail
        go_ret
        exact ⟨rfl, HG.out.bel⟩
      · have h2' : ¬ (1 : Int) < n := by omega
        rw [decide_eq_false h2]
        have hn1 : n = 1 := by omega
        have hi0' : i = 0 := by omega
        clear e1 hi0 hi1 hin hic hw1 ht1 hg1 hinn
        subst hn1
        subst hi0'
        go_wp2_with (refine wpList_load_g (op := ⟨some 94, _, _, _, _, _⟩) (by rfl) 30 _ rfl wx.heap.size 0 rfl _ _ HYa.out.range Try.underlying30 rfl (size_msg _ _ _ _) ?_)
        refine (mayM_any (lM f0 (0 + 1 + (1 - 0)) (catD (fun j => fE f0 (0 + j)) (0 + 1) (fun j => fE f0 (0 + j)))) _ _ _ wu HRb.out).mono ?_
        rintro e wz ⟨rfl, hb⟩
        rw [HM3.out]
        replace HG := Lib.hid (HG.out.grow hb (Nat.le_refl _))
        clear hb
        clear HYa HRb
        obtain ⟨sv, hen, hes⟩ : ∃ sv, EntAt wz g 0 (fE f0 0).fr sv (fE f0 0).I ∧ EvsV wz sv (fE f0 0).n (fE f0 0).E := by
          obtain ⟨a, c, e, -, -, h3⟩ := HG.out.ol.ents
          obtain ⟨b, o, e2, hlt, h4⟩ := h3 (by omega)
          injection e with e3 e4 e5
          rw [e2] at e3
          injection e3 with e3
          injection e3 with e6 e7
          subst e6
          subst e7
          obtain ⟨sv, h5, h6⟩ := h4 0 (by omega)
          exact ⟨sv, h5, h6⟩
        have HEn := Lib.hid hen
        have HEs := Lib.hid hes
        have c14 := HG.out.msg.c14
        have hn0 : (0 : Int) < ((1 : Nat) : Int) := by omega
        clear hen hes
        go_wp2_with (refine wpList_load_g (op := ⟨some 102, _, _, _, _, _⟩) (by rfl) 37 _ rfl g 0 rfl _ _ HEn.out.range Try.underlying37 rfl (size_ent _ _ _) ?_)
        refine (mayRef_any (fE f0 0).fr sv (fE f0 0).n (fE f0 0).E (fE f0 0).I wz HEs.out HEB.out).mono ?_
        rintro e wq ⟨rfl, hb⟩
        rw [HME.out]
        replace HG := Lib.hid (HG.out.grow hb (Nat.le_refl _))
        clear hb
        go_wp2_with fail
        go_ret
        exact ⟨rfl, HG.out.bel⟩
    · have e1 : ((i : Int) == (n : Int) - 1) = false := by rw [beq_eq_false_iff_ne]; omega
      rw [decide_eq_false h1, Bool.false_and]
      clear h1
      go_wp2_with (refine wpList_load_g (op := ⟨some 94, _, _, _, _, _⟩) (by rfl) 30 _ rfl wx.heap.size 0 rfl _ _ HYa.out.range Try.underlying30 rfl (size_msg _ _ _ _) ?_)
      refine (mayM_any (lM f0 (i + 1 + (n - i)) (catD (fun j => fE f0 (0 + j)) (i + 1) (fun j => fE f0 (i + j)))) _ _ _ wu HRb.out).mono ?_
      rintro e wz ⟨rfl, hb⟩
      rw [HM3.out]
      replace HG := Lib.hid (HG.out.grow hb (Nat.le_refl _))
      clear hb
      clear HYa HRb
      obtain ⟨sv, hen, hes⟩ : ∃ sv, EntAt wz g 0 (fE f0 0).fr sv (fE f0 0).I ∧ EvsV wz sv (fE f0 0).n (fE f0 0).E := by
        obtain ⟨a, c, e, -, -, h3⟩ := HG.out.ol.ents
        obtain ⟨b, o, e2, hlt, h4⟩ := h3 (by omega)
        injection e with e3 e4 e5
        rw [e2] at e3
        injection e3 with e3
        injection e3 with e6 e7
        subst e6
        subst e7
        obtain ⟨sv, h5, h6⟩ := h4 0 (by omega)
        exact ⟨sv, h5, h6⟩
      have HEn := Lib.hid hen
      have HEs := Lib.hid hes
      have c14 := HG.out.msg.c14
      have hn0 : (0 : Int) < n := by omega
      clear hen hes
      go_wp2_with (refine wpList_load_g (op := ⟨some 102, _, _, _, _, _⟩) (by rfl) 37 _ rfl g 0 rfl _ _ HEn.out.range Try.underlying37 rfl (size_ent _ _ _) ?_)
      refine (mayRef_any (fE f0 0).fr sv (fE f0 0).n (fE f0 0).E (fE f0 0).I wz HEs.out HEB.out).mono ?_
      rintro e wq ⟨rfl, hb⟩
      rw [HME.out]
      replace HG := Lib.hid (HG.out.grow hb (Nat.le_refl _))
      clear hb
      go_wp2_with fail
      go_ret
      exact ⟨rfl, HG.out.bel⟩
end Go.Proofs.Ytembppihfcclcaa
