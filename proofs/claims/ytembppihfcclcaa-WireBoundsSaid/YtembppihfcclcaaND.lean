/-
  Wire: WireBounds's walk (true).
-/
import Derived.Test.YtembppihfcclcaaNB
import Derived.Deep.DeepCutAuto
namespace Go.Proofs.Ytembppihfcclcaa
set_option linter.unusedVariables false
open Go.ChangeShapes Go.WideShapes Go.ChangeAt Go.RowKit

set_option linter.unusedSimpArgs false
set_option maxRecDepth 100000 in
set_option maxHeartbeats 8000000 in
theorem bounds_true (a0 : Int) (w0 : (Lit.int .i64 a0).wf = true) (w : World) :
    Calls Try.prog 10 #[.int .i64 a0, .bool true] w fun e w' => e = .returned (.bool true) ∧ Below w.heap.size w w' := by
  have hu0 : 0 ≤ IntKind.u64.wrap a0 := by simp [IntKind.wrap, IntKind.bits, IntKind.signed]; omega
  obtain ⟨k, hk, hK⟩ := cut_lt _ 10 hu0 (by omega) (by omega)
  rw [← Int.tmod_eq_emod_of_nonneg hu0] at hK
  have hK10 : wrap64 ((IntKind.u64.wrap a0).tmod 10) = (k : Int) := hK
  clear hu0 hK
  have HG : Hid (LG w w.heap.size (w.heap.size + 1) bF0 (.slice none 0 0) 0 (fE 0) (w.alloc (Obj.cells #[.int .i64 2, .int .i64 11, .int .u16 0, .int .u16 0, .int .u32 0, .int .i64 7, .int .i64 60000, .int .i64 1048576, .int .i64 0, .int .i64 0, .int .i64 0, .int .u32 0, .int .u64 0, .slice none 0 0, .slice none 0 0, .slice none 0 0] 30))) := Lib.hid (lg_new (w0 := w) (w := w) (F := bF0) (Below.refl w.heap.size w) (Nat.le_refl _) (fE 0))
  go_enter Try.func10, Try.ntmps10
  have hx0 : True := trivial
  · go_upto_block 0 with (fail)
    rw [hK10]
    clear hK10
    generalize w.alloc (Obj.cells #[.int .i64 2, .int .i64 11, .int .u16 0, .int .u16 0, .int .u32 0, .int .i64 7, .int .i64 60000, .int .i64 1048576, .int .i64 0, .int .i64 0, .int .i64 0, .int .u32 0, .int .u64 0, .slice none 0 0, .slice none 0 0, .slice none 0 0] 30) = w1 at *
    go_cut [6] (fun c wx => c = .pointer (some ⟨w.heap.size, 0, none⟩) ∧ BQ w true wx)
    case first =>
      rcases (by omega : k = 0 ∨ k = 1 ∨ k = 2 ∨ k = 3 ∨ k = 4 ∨ k = 5 ∨ k = 6 ∨ k = 7 ∨ k = 8 ∨ k = 9) with rfl | rfl | rfl | rfl | rfl | rfl | rfl | rfl | rfl | rfl
      · have cc : w1.cell? ⟨w.heap.size, 1, none⟩ = some (.int .i64 11) := HG.out.msg.c1
        have ff : w1.frozen? ⟨w.heap.size, 1, none⟩ = false := by have := (HG.out.th 1 (by omega)).2; rwa [Nat.zero_add] at this
        have HU := Lib.hid (HG.out.msg.up 1 (by omega) 12)
        have HBu := Lib.hid (HG.out.bel.setCell (p := ⟨w.heap.size, 1, none⟩) (Nat.le_refl _) (.int .i64 12))
        go_wp2_with fail
        go_meet
        exact ⟨rfl, bq_num HU.out HBu.out (numM_b (by decide) (by decide) (by decide) (by decide) (by decide)) (by kernel_rfl) (fun _ => by decide)⟩
      · have cc : w1.cell? ⟨w.heap.size, 5, none⟩ = some (.int .i64 7) := HG.out.msg.c5
        have ff : w1.frozen? ⟨w.heap.size, 5, none⟩ = false := by have := (HG.out.th 5 (by omega)).2; rwa [Nat.zero_add] at this
        have HU := Lib.hid (HG.out.msg.up 5 (by omega) 8)
        have HBu := Lib.hid (HG.out.bel.setCell (p := ⟨w.heap.size, 5, none⟩) (Nat.le_refl _) (.int .i64 8))
        go_wp2_with fail
        go_meet
        exact ⟨rfl, bq_num HU.out HBu.out (numM_b (by decide) (by decide) (by decide) (by decide) (by decide)) (by kernel_rfl) (fun _ => by decide)⟩
      · have cc : w1.cell? ⟨w.heap.size, 6, none⟩ = some (.int .i64 60000) := HG.out.msg.c6
        have ff : w1.frozen? ⟨w.heap.size, 6, none⟩ = false := by have := (HG.out.th 6 (by omega)).2; rwa [Nat.zero_add] at this
        have HU := Lib.hid (HG.out.msg.up 6 (by omega) 60001)
        have HBu := Lib.hid (HG.out.bel.setCell (p := ⟨w.heap.size, 6, none⟩) (Nat.le_refl _) (.int .i64 60001))
        go_wp2_with fail
        go_meet
        exact ⟨rfl, bq_num HU.out HBu.out (numM_b (by decide) (by decide) (by decide) (by decide) (by decide)) (by kernel_rfl) (fun _ => by decide)⟩
      · have cc : w1.cell? ⟨w.heap.size, 7, none⟩ = some (.int .i64 1048576) := HG.out.msg.c7
        have ff : w1.frozen? ⟨w.heap.size, 7, none⟩ = false := by have := (HG.out.th 7 (by omega)).2; rwa [Nat.zero_add] at this
        have HU := Lib.hid (HG.out.msg.up 7 (by omega) 1048577)
        have HBu := Lib.hid (HG.out.bel.setCell (p := ⟨w.heap.size, 7, none⟩) (Nat.le_refl _) (.int .i64 1048577))
        go_wp2_with fail
        go_meet
        exact ⟨rfl, bq_num HU.out HBu.out (numM_b (by decide) (by decide) (by decide) (by decide) (by decide)) (by kernel_rfl) (fun _ => by decide)⟩
      · have HU := Lib.hid (msgAt_stored HG.out.th bF41 (.slice none 0 0) (.slice none 0 0) (.slice none 0 0))
        have HBu := Lib.hid (below_setCells w.heap.size (Nat.le_refl _) (msgL bF41 (.slice none 0 0) (.slice none 0 0) (.slice none 0 0)) 0 HG.out.bel)
        have H2 : Hid (w1.there w.heap.size 0 (msgL bF41 (.slice none 0 0) (.slice none 0 0) (.slice none 0 0)).toArray.size) := Lib.hid (by
          have e : (msgL bF41 (.slice none 0 0) (.slice none 0 0) (.slice none 0 0)).toArray.size = 16 := by rw [List.size_toArray, msgL_len]
          rw [e]; exact HG.out.th)
        obtain ⟨w2, hw2⟩ : ∃ w2, w1.setCells w.heap.size 0 (msgL bF41 (.slice none 0 0) (.slice none 0 0) (.slice none 0 0)) = w2 := ⟨_, rfl⟩
        rw [hw2] at HU HBu
        have HW2 := Lib.hid hw2
        clear hw2
        go_wp2_with (first | (refine wpList_build_gen (o := ⟨some 62, _, _, _, _, _⟩) _ _ (msgL bF41 (.slice none 0 0) (.slice none 0 0) (.slice none 0 0)) (by rfl) rfl rfl (build_b41 _) ?_) | (refine wpList_store_mid (op := ⟨none, Op.store 30 (.tmp 6) (.tmp 62), _, _, _, _⟩) rfl 30 _ _ rfl w.heap.size 0 (msgL bF41 (.slice none 0 0) (.slice none 0 0) (.slice none 0 0)).toArray rfl rfl H2.out (by have e : (msgL bF41 (.slice none 0 0) (.slice none 0 0) (.slice none 0 0)).toArray.size = (msgL bF41 (.slice none 0 0) (.slice none 0 0) (.slice none 0 0)).length := List.size_toArray; rw [e]; exact size_msg _ _ _ _) (nil_one _) ?_; rw [show (msgL bF41 (.slice none 0 0) (.slice none 0 0) (.slice none 0 0)).toArray.toList = msgL bF41 (.slice none 0 0) (.slice none 0 0) (.slice none 0 0) from rfl, HW2.out]))
        go_meet
        exact ⟨rfl, bq_num HU.out HBu.out (numM_b (by decide) (by decide) (by decide) (by decide) (by decide)) (by kernel_rfl) (fun _ => by decide)⟩
      · have HU := Lib.hid (msgAt_stored HG.out.th bF51 (.slice none 0 0) (.slice none 0 0) (.slice none 0 0))
        have HBu := Lib.hid (below_setCells w.heap.size (Nat.le_refl _) (msgL bF51 (.slice none 0 0) (.slice none 0 0) (.slice none 0 0)) 0 HG.out.bel)
        have H2 : Hid (w1.there w.heap.size 0 (msgL bF51 (.slice none 0 0) (.slice none 0 0) (.slice none 0 0)).toArray.size) := Lib.hid (by
          have e : (msgL bF51 (.slice none 0 0) (.slice none 0 0) (.slice none 0 0)).toArray.size = 16 := by rw [List.size_toArray, msgL_len]
          rw [e]; exact HG.out.th)
        obtain ⟨w2, hw2⟩ : ∃ w2, w1.setCells w.heap.size 0 (msgL bF51 (.slice none 0 0) (.slice none 0 0) (.slice none 0 0)) = w2 := ⟨_, rfl⟩
        rw [hw2] at HU HBu
        have HW2 := Lib.hid hw2
        clear hw2
        go_wp2_with (first | (refine wpList_build_gen (o := ⟨some 67, _, _, _, _, _⟩) _ _ (msgL bF51 (.slice none 0 0) (.slice none 0 0) (.slice none 0 0)) (by rfl) rfl rfl (build_b51 _) ?_) | (refine wpList_store_mid (op := ⟨none, Op.store 30 (.tmp 6) (.tmp 67), _, _, _, _⟩) rfl 30 _ _ rfl w.heap.size 0 (msgL bF51 (.slice none 0 0) (.slice none 0 0) (.slice none 0 0)).toArray rfl rfl H2.out (by have e : (msgL bF51 (.slice none 0 0) (.slice none 0 0) (.slice none 0 0)).toArray.size = (msgL bF51 (.slice none 0 0) (.slice none 0 0) (.slice none 0 0)).length := List.size_toArray; rw [e]; exact size_msg _ _ _ _) (nil_one _) ?_; rw [show (msgL bF51 (.slice none 0 0) (.slice none 0 0) (.slice none 0 0)).toArray.toList = msgL bF51 (.slice none 0 0) (.slice none 0 0) (.slice none 0 0) from rfl, HW2.out]))
        go_meet
        exact ⟨rfl, bq_num HU.out HBu.out (numM_b (by decide) (by decide) (by decide) (by decide) (by decide)) (by kernel_rfl) (fun _ => by decide)⟩
      · have hT1 : w.heap.size < w1.heap.size := HG.out.msg.lt
        have HRw0 := bytesV_new w1 [1] 1 rfl (by decide)
        have HG2 := Lib.hid (HG.out.grow ((Below.refl w1.heap.size w1).alloc (Nat.le_refl _) (Obj.cells #[.int .u8 1] 5)) (Nat.le_refl _))
        have hsz2 : w1.heap.size < (w1.alloc (Obj.cells #[.int .u8 1] 5)).heap.size := by simp
        obtain ⟨w2, hw2⟩ : ∃ w2, w1.alloc (Obj.cells #[.int .u8 1] 5) = w2 := ⟨_, rfl⟩
        have HRw : Hid (BytesV w2 (.slice (some ⟨w1.heap.size, 0, none⟩) 1 1) [1]) := Lib.hid (by rw [← hw2]; exact HRw0)
        rw [hw2] at HG2 hsz2
        have HW1 := Lib.hid hw2
        clear hw2 HRw0
        have HR2 : Hid (RowsV w2 (.slice none 0 0) (.slice none 0 0) (.slice (some ⟨w1.heap.size, 0, none⟩) 1 1) ⟨bF61, 0, fun _ => 0, 0, fun _ => nE, [1]⟩) := Lib.hid ⟨(rows_nil w2 zF).i, (rows_nil w2 zF).l, HRw.out⟩
        have H1 := msgL_one HR2.out bF61
        have HU := Lib.hid (msgAt_stored HG2.out.th bF61 (.slice none 0 0) (.slice none 0 0) (.slice (some ⟨w1.heap.size, 0, none⟩) 1 1))
        have HBu := Lib.hid (below_setCells w.heap.size (Nat.le_refl _) (msgL bF61 (.slice none 0 0) (.slice none 0 0) (.slice (some ⟨w1.heap.size, 0, none⟩) 1 1)) 0 HG2.out.bel)
        have H2 : Hid (w2.there w.heap.size 0 (msgL bF61 (.slice none 0 0) (.slice none 0 0) (.slice (some ⟨w1.heap.size, 0, none⟩) 1 1)).toArray.size) := Lib.hid (by
          have e : (msgL bF61 (.slice none 0 0) (.slice none 0 0) (.slice (some ⟨w1.heap.size, 0, none⟩) 1 1)).toArray.size = 16 := by rw [List.size_toArray, msgL_len]
          rw [e]; exact HG2.out.th)
        have hk3 : (w2.setCells w.heap.size 0 (msgL bF61 (.slice none 0 0) (.slice none 0 0) (.slice (some ⟨w1.heap.size, 0, none⟩) 1 1))).heap[w1.heap.size]? = w2.heap[w1.heap.size]? := setCells_other _ _ (by omega) _ _ _
        have hs3 : w2.heap.size ≤ (w2.setCells w.heap.size 0 (msgL bF61 (.slice none 0 0) (.slice none 0 0) (.slice (some ⟨w1.heap.size, 0, none⟩) 1 1))).heap.size := Nat.le_of_eq (setCells_size _ _ _ _).symm
        obtain ⟨w3, hw3⟩ : ∃ w3, w2.setCells w.heap.size 0 (msgL bF61 (.slice none 0 0) (.slice none 0 0) (.slice (some ⟨w1.heap.size, 0, none⟩) 1 1)) = w3 := ⟨_, rfl⟩
        rw [hw3] at HU HBu hk3 hs3
        have HW2 := Lib.hid hw3
        have HRX : Hid (RowsV w3 (.slice none 0 0) (.slice none 0 0) (.slice (some ⟨w1.heap.size, 0, none⟩) 1 1) ⟨bF61, 0, fun _ => 0, 0, fun _ => nE, [1]⟩) := Lib.hid ⟨(rows_nil w3 zF).i, (rows_nil w3 zF).l, bytesV_put HRw.out hk3 hs3⟩
        clear hw3 hk3 hs3 HR2 HG2 HRw hsz2
        go_wp2_with (first | (refine wpList_build_gen (o := ⟨some 73, _, _, _, _, _⟩) _ _ (msgL bF61 (.slice none 0 0) (.slice none 0 0) (.slice (some ⟨w1.heap.size, 0, none⟩) 1 1)) (by rfl) rfl rfl (build_b61 _ _) ?_) | (rw [HW1.out]; (refine wpList_store_mid (op := ⟨none, Op.store 30 (.tmp 6) (.tmp 73), _, _, _, _⟩) rfl 30 _ _ rfl w.heap.size 0 (msgL bF61 (.slice none 0 0) (.slice none 0 0) (.slice (some ⟨w1.heap.size, 0, none⟩) 1 1)).toArray rfl rfl H2.out (by have e : (msgL bF61 (.slice none 0 0) (.slice none 0 0) (.slice (some ⟨w1.heap.size, 0, none⟩) 1 1)).toArray.size = (msgL bF61 (.slice none 0 0) (.slice none 0 0) (.slice (some ⟨w1.heap.size, 0, none⟩) 1 1)).length := List.size_toArray; rw [e]; exact size_msg _ _ _ _) H1 ?_; rw [show (msgL bF61 (.slice none 0 0) (.slice none 0 0) (.slice (some ⟨w1.heap.size, 0, none⟩) 1 1)).toArray.toList = msgL bF61 (.slice none 0 0) (.slice none 0 0) (.slice (some ⟨w1.heap.size, 0, none⟩) 1 1) from rfl, HW2.out])))
        go_meet
        exact ⟨rfl, bq_of (M := ⟨bF61, 0, fun _ => 0, 0, fun _ => nE, [1]⟩) HU.out HRX.out HBu.out ⟨by decide, by decide, by decide, by decide, by decide, (fun i hi => absurd hi (Nat.not_lt_zero _)), (fun i hi => absurd hi (Nat.not_lt_zero _)), (fun i hi => absurd hi (Nat.not_lt_zero _)), (byteL_iff.2 (fun x hx => by have := List.mem_singleton.1 hx; omega))⟩ (by kernel_rfl) (fun _ => Nat.le_of_ble_eq_true (by kernel_rfl))⟩
      · have hmk := mk_b71
        have hT1 : w.heap.size < w1.heap.size := HG.out.msg.lt
        have HRw0 := bytesV_new w1 (rep0 65) 65 rfl (by decide)
        have HG2 := Lib.hid (HG.out.grow ((Below.refl w1.heap.size w1).alloc (Nat.le_refl _) (Obj.cells (bv (rep0 65)).toArray 5)) (Nat.le_refl _))
        have hsz2 : w1.heap.size < (w1.alloc (Obj.cells (bv (rep0 65)).toArray 5)).heap.size := by simp
        obtain ⟨w2, hw2⟩ : ∃ w2, w1.alloc (Obj.cells (bv (rep0 65)).toArray 5) = w2 := ⟨_, rfl⟩
        have HRw : Hid (BytesV w2 (.slice (some ⟨w1.heap.size, 0, none⟩) 65 65) (rep0 65)) := Lib.hid (by rw [← hw2]; exact HRw0)
        rw [hw2] at HG2 hsz2
        have HW1 := Lib.hid hw2
        clear hw2 HRw0
        have HR2 : Hid (RowsV w2 (.slice none 0 0) (.slice none 0 0) (.slice (some ⟨w1.heap.size, 0, none⟩) 65 65) ⟨bF7, 0, fun _ => 0, 0, fun _ => nE, rep0 65⟩) := Lib.hid ⟨(rows_nil w2 zF).i, (rows_nil w2 zF).l, HRw.out⟩
        have H1 := msgL_one HR2.out bF7
        have HU := Lib.hid (msgAt_stored HG2.out.th bF7 (.slice none 0 0) (.slice none 0 0) (.slice (some ⟨w1.heap.size, 0, none⟩) 65 65))
        have HBu := Lib.hid (below_setCells w.heap.size (Nat.le_refl _) (msgL bF7 (.slice none 0 0) (.slice none 0 0) (.slice (some ⟨w1.heap.size, 0, none⟩) 65 65)) 0 HG2.out.bel)
        have H2 : Hid (w2.there w.heap.size 0 (msgL bF7 (.slice none 0 0) (.slice none 0 0) (.slice (some ⟨w1.heap.size, 0, none⟩) 65 65)).toArray.size) := Lib.hid (by
          have e : (msgL bF7 (.slice none 0 0) (.slice none 0 0) (.slice (some ⟨w1.heap.size, 0, none⟩) 65 65)).toArray.size = 16 := by rw [List.size_toArray, msgL_len]
          rw [e]; exact HG2.out.th)
        have hk3 : (w2.setCells w.heap.size 0 (msgL bF7 (.slice none 0 0) (.slice none 0 0) (.slice (some ⟨w1.heap.size, 0, none⟩) 65 65))).heap[w1.heap.size]? = w2.heap[w1.heap.size]? := setCells_other _ _ (by omega) _ _ _
        have hs3 : w2.heap.size ≤ (w2.setCells w.heap.size 0 (msgL bF7 (.slice none 0 0) (.slice none 0 0) (.slice (some ⟨w1.heap.size, 0, none⟩) 65 65))).heap.size := Nat.le_of_eq (setCells_size _ _ _ _).symm
        obtain ⟨w3, hw3⟩ : ∃ w3, w2.setCells w.heap.size 0 (msgL bF7 (.slice none 0 0) (.slice none 0 0) (.slice (some ⟨w1.heap.size, 0, none⟩) 65 65)) = w3 := ⟨_, rfl⟩
        rw [hw3] at HU HBu hk3 hs3
        have HW2 := Lib.hid hw3
        have HRX : Hid (RowsV w3 (.slice none 0 0) (.slice none 0 0) (.slice (some ⟨w1.heap.size, 0, none⟩) 65 65) ⟨bF7, 0, fun _ => 0, 0, fun _ => nE, rep0 65⟩) := Lib.hid ⟨(rows_nil w3 zF).i, (rows_nil w3 zF).l, bytesV_put HRw.out hk3 hs3⟩
        clear hw3 hk3 hs3 HR2 HG2 HRw hsz2
        go_wp2_with (first | (refine wpList_build_gen (o := ⟨some 79, _, _, _, _, _⟩) _ _ (msgL bF7 (.slice none 0 0) (.slice none 0 0) (.slice (some ⟨w1.heap.size, 0, none⟩) 65 65)) (by rfl) rfl rfl (build_b71 _ _) ?_) | (rw [HW1.out]; (refine wpList_store_mid (op := ⟨none, Op.store 30 (.tmp 6) (.tmp 79), _, _, _, _⟩) rfl 30 _ _ rfl w.heap.size 0 (msgL bF7 (.slice none 0 0) (.slice none 0 0) (.slice (some ⟨w1.heap.size, 0, none⟩) 65 65)).toArray rfl rfl H2.out (by have e : (msgL bF7 (.slice none 0 0) (.slice none 0 0) (.slice (some ⟨w1.heap.size, 0, none⟩) 65 65)).toArray.size = (msgL bF7 (.slice none 0 0) (.slice none 0 0) (.slice (some ⟨w1.heap.size, 0, none⟩) 65 65)).length := List.size_toArray; rw [e]; exact size_msg _ _ _ _) H1 ?_; rw [show (msgL bF7 (.slice none 0 0) (.slice none 0 0) (.slice (some ⟨w1.heap.size, 0, none⟩) 65 65)).toArray.toList = msgL bF7 (.slice none 0 0) (.slice none 0 0) (.slice (some ⟨w1.heap.size, 0, none⟩) 65 65) from rfl, HW2.out])))
        go_meet
        exact ⟨rfl, bq_of (M := ⟨bF7, 0, fun _ => 0, 0, fun _ => nE, rep0 65⟩) HU.out HRX.out HBu.out ⟨by decide, by decide, by decide, by decide, by decide, (fun i hi => absurd hi (Nat.not_lt_zero _)), (fun i hi => absurd hi (Nat.not_lt_zero _)), (fun i hi => absurd hi (Nat.not_lt_zero _)), (rep0_by 65)⟩ (by kernel_rfl) (fun _ => Nat.le_of_ble_eq_true (by kernel_rfl))⟩
      · have hmk := mk_b81
        have hT1 : w.heap.size < w1.heap.size := HG.out.msg.lt
        have HRw0 := inpsV_new w1 (fun _ => 0) 17 (by decide)
        have HG2 := Lib.hid (HG.out.grow ((Below.refl w1.heap.size w1).alloc (Nat.le_refl _) (Obj.cells (inL3 (fun _ => 0) 17).toArray 34)) (Nat.le_refl _))
        have hsz2 : w1.heap.size < (w1.alloc (Obj.cells (inL3 (fun _ => 0) 17).toArray 34)).heap.size := by simp
        obtain ⟨w2, hw2⟩ : ∃ w2, w1.alloc (Obj.cells (inL3 (fun _ => 0) 17).toArray 34) = w2 := ⟨_, rfl⟩
        have HRw : Hid (InpsV w2 (.slice (some ⟨w1.heap.size, 0, none⟩) 17 17) 17 (fun _ => 0)) := Lib.hid (by rw [← hw2]; exact HRw0)
        rw [hw2] at HG2 hsz2
        have HW1 := Lib.hid hw2
        clear hw2 HRw0
        have HR2 : Hid (RowsV w2 (.slice (some ⟨w1.heap.size, 0, none⟩) 17 17) (.slice none 0 0) (.slice none 0 0) ⟨bF8, 17, fun _ => 0, 0, fun _ => nE, []⟩) := Lib.hid ⟨HRw.out, (rows_nil w2 zF).l, (rows_nil w2 zF).d⟩
        have H1 := msgL_one HR2.out bF8
        have HU := Lib.hid (msgAt_stored HG2.out.th bF8 (.slice (some ⟨w1.heap.size, 0, none⟩) 17 17) (.slice none 0 0) (.slice none 0 0))
        have HBu := Lib.hid (below_setCells w.heap.size (Nat.le_refl _) (msgL bF8 (.slice (some ⟨w1.heap.size, 0, none⟩) 17 17) (.slice none 0 0) (.slice none 0 0)) 0 HG2.out.bel)
        have H2 : Hid (w2.there w.heap.size 0 (msgL bF8 (.slice (some ⟨w1.heap.size, 0, none⟩) 17 17) (.slice none 0 0) (.slice none 0 0)).toArray.size) := Lib.hid (by
          have e : (msgL bF8 (.slice (some ⟨w1.heap.size, 0, none⟩) 17 17) (.slice none 0 0) (.slice none 0 0)).toArray.size = 16 := by rw [List.size_toArray, msgL_len]
          rw [e]; exact HG2.out.th)
        have hk3 : (w2.setCells w.heap.size 0 (msgL bF8 (.slice (some ⟨w1.heap.size, 0, none⟩) 17 17) (.slice none 0 0) (.slice none 0 0))).heap[w1.heap.size]? = w2.heap[w1.heap.size]? := setCells_other _ _ (by omega) _ _ _
        have hs3 : w2.heap.size ≤ (w2.setCells w.heap.size 0 (msgL bF8 (.slice (some ⟨w1.heap.size, 0, none⟩) 17 17) (.slice none 0 0) (.slice none 0 0))).heap.size := Nat.le_of_eq (setCells_size _ _ _ _).symm
        obtain ⟨w3, hw3⟩ : ∃ w3, w2.setCells w.heap.size 0 (msgL bF8 (.slice (some ⟨w1.heap.size, 0, none⟩) 17 17) (.slice none 0 0) (.slice none 0 0)) = w3 := ⟨_, rfl⟩
        rw [hw3] at HU HBu hk3 hs3
        have HW2 := Lib.hid hw3
        have HRX : Hid (RowsV w3 (.slice (some ⟨w1.heap.size, 0, none⟩) 17 17) (.slice none 0 0) (.slice none 0 0) ⟨bF8, 17, fun _ => 0, 0, fun _ => nE, []⟩) := Lib.hid ⟨inpsV_put HRw.out hk3 hs3, (rows_nil w3 zF).l, (rows_nil w3 zF).d⟩
        clear hw3 hk3 hs3 HR2 HG2 HRw hsz2
        go_wp2_with (first | (refine wpList_build_gen (o := ⟨some 85, _, _, _, _, _⟩) _ _ (msgL bF8 (.slice (some ⟨w1.heap.size, 0, none⟩) 17 17) (.slice none 0 0) (.slice none 0 0)) (by rfl) rfl rfl (build_b81 _ _) ?_) | (rw [HW1.out]; (refine wpList_store_mid (op := ⟨none, Op.store 30 (.tmp 6) (.tmp 85), _, _, _, _⟩) rfl 30 _ _ rfl w.heap.size 0 (msgL bF8 (.slice (some ⟨w1.heap.size, 0, none⟩) 17 17) (.slice none 0 0) (.slice none 0 0)).toArray rfl rfl H2.out (by have e : (msgL bF8 (.slice (some ⟨w1.heap.size, 0, none⟩) 17 17) (.slice none 0 0) (.slice none 0 0)).toArray.size = (msgL bF8 (.slice (some ⟨w1.heap.size, 0, none⟩) 17 17) (.slice none 0 0) (.slice none 0 0)).length := List.size_toArray; rw [e]; exact size_msg _ _ _ _) H1 ?_; rw [show (msgL bF8 (.slice (some ⟨w1.heap.size, 0, none⟩) 17 17) (.slice none 0 0) (.slice none 0 0)).toArray.toList = msgL bF8 (.slice (some ⟨w1.heap.size, 0, none⟩) 17 17) (.slice none 0 0) (.slice none 0 0) from rfl, HW2.out])))
        go_meet
        exact ⟨rfl, bq_of (M := ⟨bF8, 17, fun _ => 0, 0, fun _ => nE, []⟩) HU.out HRX.out HBu.out ⟨by decide, by decide, by decide, by decide, by decide, (fun i _ => by show (0 : Int) ≤ 0 ∧ (0 : Int) ≤ 255; omega), (fun i _ => by show ((-128 : Int) ≤ 0 ∧ (0 : Int) ≤ 127) ∧ ((-128 : Int) ≤ 0 ∧ (0 : Int) ≤ 127); omega), (fun i hi => absurd hi (Nat.not_lt_zero _)), byteL_nil⟩ (by kernel_rfl) (fun _ => Nat.le_of_ble_eq_true (by kernel_rfl))⟩
      · have HG2 := Lib.hid (HG.out.reset bF9 iE)
        have H2 : Hid (w1.there w.heap.size 0 (msgL bF9 (.slice none 0 0) (.slice none 0 0) (.slice none 0 0)).toArray.size) := Lib.hid (by
          have e : (msgL bF9 (.slice none 0 0) (.slice none 0 0) (.slice none 0 0)).toArray.size = 16 := by rw [List.size_toArray, msgL_len]
          rw [e]; exact HG.out.th)
        obtain ⟨w2, hw2⟩ : ∃ w2, w1.setCells w.heap.size 0 (msgL bF9 (.slice none 0 0) (.slice none 0 0) (.slice none 0 0)) = w2 := ⟨_, rfl⟩
        rw [hw2] at HG2
        have HW2 := Lib.hid hw2
        clear hw2 HG
        go_wp2_with (first | (refine wpList_build_gen (o := ⟨some 16, _, _, _, _, _⟩) _ _ (msgL bF9 (.slice none 0 0) (.slice none 0 0) (.slice none 0 0)) (by rfl) rfl rfl (build_b9 _) ?_) | (refine wpList_store_mid (op := ⟨none, Op.store 30 (.tmp 6) (.tmp 16), _, _, _, _⟩) rfl 30 _ _ rfl w.heap.size 0 (msgL bF9 (.slice none 0 0) (.slice none 0 0) (.slice none 0 0)).toArray rfl rfl H2.out (by have e : (msgL bF9 (.slice none 0 0) (.slice none 0 0) (.slice none 0 0)).toArray.size = (msgL bF9 (.slice none 0 0) (.slice none 0 0) (.slice none 0 0)).length := List.size_toArray; rw [e]; exact size_msg _ _ _ _) (nil_one _) ?_; rw [show (msgL bF9 (.slice none 0 0) (.slice none 0 0) (.slice none 0 0)).toArray.toList = msgL bF9 (.slice none 0 0) (.slice none 0 0) (.slice none 0 0) from rfl, HW2.out]))
        clear H2 HW2
        go_loopw [7] (fun i wr => ∃ j : Nat, ∃ lv : Value, j ≤ 17 ∧ i = .int .i64 j ∧ LG w w.heap.size (w.heap.size + 1) bF9 lv j iE wr) (fun i _ => 17 - (intOf i).toNat)
        case atStart => exact ⟨0, _, by omega, rfl, HG2.out⟩
        case round =>
          obtain ⟨j, lv, hj, rfl, hg⟩ := hrel
          clear HG2
          have HG := Lib.hid hg
          clear hg
          by_cases hlt : j < 17
          · have hki : (j : Int) < 17 := by omega
            have c14 := HG.out.msg.c14
            go_wp2_with (first | (refine wpList_build_fr (j : Int) (by rfl) _ rfl rfl ?_) | (refine wpList_bs_ent (j : Int) (.slice none 0 0) (fun _ => 0) (by rfl) _ rfl rfl ?_) | (at_builtin; refine wpList_app_en rfl (.tmp 24) (.tmp 27) rfl (w.heap.size + 1) lv j iE HG.out.ol (by omega) rfl HG.out.hB (.slice none 0 0) (HG.out.nilE _) (fun g hg => by cases hg) rfl rfl ?_))
            intro lv' w' hO hgr hob hform
            obtain ⟨g, cap, rfl⟩ := hform.out
            obtain ⟨hG', hc', hf'⟩ := HG.out.ent hO.out hgr.out
            have HG' := Lib.hid hG'
            clear hG' hO hgr hob c14 HG
            go_wp2_with fail
            exact ⟨⟨j + 1, _, by omega, by go_num, HG'.out⟩, by simp [intOf]; omega⟩
          · obtain rfl : j = 17 := by omega
            clear hlt hj
            go_wp2_with fail
            go_meet
            exact ⟨rfl, bq_of (M := ⟨bF9, 0, fun _ => 0, 17, iE, []⟩) HG.out.msg ⟨HG.out.rows.i, HG.out.rows.l, HG.out.rows.d⟩ HG.out.bel ⟨by decide, by decide, by decide, by decide, by decide, (fun i hi => absurd hi (Nat.not_lt_zero _)), (fun i hi => absurd hi (Nat.not_lt_zero _)), (fun i hi => iE_b i (by have : i < 17 := hi; omega)), byteL_nil⟩ (by kernel_rfl) (fun _ => Nat.le_of_ble_eq_true (by kernel_rfl))⟩
    case rest =>
      obtain ⟨rfl, M, iv, lv, dv, hA, hR, hMB, hmay, hlen, hb⟩ := hcut
      have HA := Lib.hid hA
      have HR := Lib.hid hR
      have HB := Lib.hid hb
      have HMB := Lib.hid hMB
      have HL := Lib.hid hlen
      clear hA hR hb hMB hlen HG
      go_wp2_with (refine wpList_load_g (op := ⟨some 87, _, _, _, _, _⟩) (by rfl) 30 _ rfl w.heap.size 0 rfl _ _ HA.out.range Try.underlying30 rfl (size_msg _ _ _ _) ?_)
      refine (putM_no M iv lv dv _ HR.out hmay).mono ?_
      rintro e wb ⟨rfl, hb⟩
      replace HA := Lib.hid (HA.out.block (hb.block _ HA.out.lt))
      replace HR := Lib.hid (HR.out.below hb (Nat.le_refl _))
      replace HB := Lib.hid (HB.out.trans (hb.mono HB.out.size))
      clear hb
      go_wp2_with fail
      refine (told_law _).mono ?_
      rintro e wt ⟨rfl, hb⟩
      replace HA := Lib.hid (HA.out.block (hb.block _ HA.out.lt))
      replace HR := Lib.hid (HR.out.below hb (Nat.le_refl _))
      replace HB := Lib.hid (HB.out.trans (hb.mono HB.out.size))
      clear hb
      go_wp2_with (refine wpList_load_g (op := ⟨some 93, _, _, _, _, _⟩) (by rfl) 30 _ rfl w.heap.size 0 rfl _ _ HA.out.range Try.underlying30 rfl (size_msg _ _ _ _) ?_)
      refine (mayM_any M iv lv dv wt HR.out).mono ?_
      rintro e wz ⟨rfl, hb⟩
      replace HB := Lib.hid (HB.out.trans (hb.mono HB.out.size))
      rw [hmay]
      clear hb hmay
      go_wp2_with fail
      go_ret
      exact ⟨rfl, HB.out⟩
end Go.Proofs.Ytembppihfcclcaa
