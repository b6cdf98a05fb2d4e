/-
  Wire: the reader's message, down to its rows.
-/
import Derived.Test.YtembppihfcclcaaG15x
import Derived.Deep.DeepCutAuto
import Derived.Deep.CutBlock
namespace Go.Proofs.Ytembppihfcclcaa
set_option linter.unusedVariables false
open Go.ChangeShapes Go.WideShapes Go.ChangeAt Go.RowKit

set_option linter.unusedSimpArgs false
theorem i8_wrap_sgn (x : Int) (h : 0 ≤ x ∧ x < 256) : IntKind.i8.wrap x = sgn x := by
  unfold sgn
  simp [IntKind.wrap, IntKind.bits, IntKind.signed]
  split <;> omega
theorem u8_wrap_id (x : Int) (h : 0 ≤ x ∧ x < 256) : IntKind.u8.wrap x = x := by
  simp [IntKind.wrap, IntKind.bits, IntKind.signed]
  omega
theorem gV_bd {bs : List Int} (h : ByteL bs) (j : Nat) : 0 ≤ gV bs j ∧ (j ≠ 7 → gV bs j < 4294967296) ∧ gV bs j < 18446744073709551616 := by
  have h1 := leV_nn h (gPs bs j) (wdt j)
  have h2 := leV_lt h (gPs bs j)
  have h3 : wdt j = 1 ∨ wdt j = 2 ∨ (wdt j = 8 ∧ j = 7) ∨ wdt j = 4 := by
    unfold wdt
    by_cases a : j = 0 ∨ j = 3
    · rw [if_pos a]; omega
    · rw [if_neg a]
      by_cases b : j = 1 ∨ j = 4 ∨ j = 5
      · rw [if_pos b]; omega
      · rw [if_neg b]
        by_cases c : j = 7
        · rw [if_pos c]; omega
        · rw [if_neg c]; omega
  unfold gV
  cases hasB (gK bs) j
  · simp
  · simp only [if_true]
    rcases h3 with e | e | ⟨e, e'⟩ | e <;> rw [e] at h1 ⊢
    · omega
    · omega
    · exact ⟨h1, fun hn => absurd e' hn, h2.2.2.2⟩
    · omega
set_option maxRecDepth 100000 in
set_option maxHeartbeats 8000000 in
theorem message_any (bs : List Int) (R b o C : Nat) (w : World) (X : RX w bs R b) (hr : RwAt w R b o bs.length C 0) (hb : BytesAt w b o bs) :
    Calls Try.prog 43 #[.pointer (some ⟨R, 0, none⟩)] w (MsgQ bs R w) := by
  have HX := Lib.hid X
  have HA := Lib.hid (ga_start X hr hb)
  have HBY := Lib.hid X.by'
  have v0a := leV_nn X.by' 0 1
  have v0b := (leV_lt X.by' 0).1
  have v1a := leV_nn X.by' 1 1
  have v1b := (leV_lt X.by' 1).1
  have v2a := leV_nn X.by' 2 2
  have v2b := (leV_lt X.by' 2).2.1
  have v3a := leV_nn X.by' 4 2
  have v3b := (leV_lt X.by' 4).2.1
  have v4a := leV_nn X.by' 6 4
  have v4b := (leV_lt X.by' 6).2.2.1
  clear X hr hb
  go_enter Try.func43, Try.ntmps43
  go_wp2_with fail
  generalize w.alloc (Obj.cells #[.int .i64 0, .int .i64 0, .int .u16 0, .int .u16 0, .int .u32 0, .int .i64 0, .int .i64 0, .int .i64 0, .int .i64 0, .int .i64 0, .int .i64 0, .int .u32 0, .int .u64 0, .slice none 0 0, .slice none 0 0, .slice none 0 0] 30) = w2 at *
  refine (num_ga HX.out HA.out 1 (by omega) (by omega)).mono ?_
  rintro e w3 (⟨rfl, hg⟩ | ⟨hl, rfl, hd⟩)
  rotate_left
  · have HN : Hid (¬ POk bs) := Lib.hid (not_pok_hd (by have := hl.out; omega))
    unfold wrongW
    go_wp2_with fail
    exact ⟨rfl, msgq_bad HN.out hd⟩
  replace HA : Hid (GA w bs R b o C 1 w3) := hg
  clear hg
  go_wp2_with fail
  refine (num_ga HX.out HA.out 1 (by omega) (by omega)).mono ?_
  rintro e w4 (⟨rfl, hg⟩ | ⟨hl, rfl, hd⟩)
  rotate_left
  · have HN : Hid (¬ POk bs) := Lib.hid (not_pok_hd (by have := hl.out; omega))
    unfold wrongW
    go_wp2_with fail
    exact ⟨rfl, msgq_bad HN.out hd⟩
  replace HA : Hid (GA w bs R b o C 2 w4) := hg
  clear hg
  go_wp2_with fail
  refine (num_ga HX.out HA.out 2 (by omega) (by omega)).mono ?_
  rintro e w5 (⟨rfl, hg⟩ | ⟨hl, rfl, hd⟩)
  rotate_left
  · have HN : Hid (¬ POk bs) := Lib.hid (not_pok_hd (by have := hl.out; omega))
    unfold wrongW
    go_wp2_with fail
    exact ⟨rfl, msgq_bad HN.out hd⟩
  replace HA : Hid (GA w bs R b o C 4 w5) := hg
  clear hg
  go_wp2_with fail
  refine (num_ga HX.out HA.out 2 (by omega) (by omega)).mono ?_
  rintro e w6 (⟨rfl, hg⟩ | ⟨hl, rfl, hd⟩)
  rotate_left
  · have HN : Hid (¬ POk bs) := Lib.hid (not_pok_hd (by have := hl.out; omega))
    unfold wrongW
    go_wp2_with fail
    exact ⟨rfl, msgq_bad HN.out hd⟩
  replace HA : Hid (GA w bs R b o C 6 w6) := hg
  clear hg
  go_wp2_with fail
  refine (num_ga HX.out HA.out 4 (by omega) (by omega)).mono ?_
  rintro e w7 (⟨rfl, hg⟩ | ⟨hl, rfl, hd⟩)
  rotate_left
  · have HN : Hid (¬ POk bs) := Lib.hid (not_pok_hd (by have := hl.out; omega))
    unfold wrongW
    go_wp2_with fail
    exact ⟨rfl, msgq_bad HN.out hd⟩
  replace HA : Hid (GA w bs R b o C 10 w7) := hg
  clear hg
  go_upto_region 2 with (first | (refine wpList_build_msg5 (o := ⟨some 22, _, _, _, _, _⟩) (leV bs 0 1) (leV bs 1 1) (leV bs 2 2) (leV bs 4 2) (leV bs 6 4) (by rfl) (.tmp 9) (.tmp 12) (.tmp 15) (.tmp 18) (.tmp 21) rfl rfl rfl rfl rfl rfl ?_) | (refine wpList_store_msg (op := ⟨none, Op.store 30 (.tmp 3) _, _, _, _, _⟩) rfl (.tmp 3) (.tmp 22) rfl (bF (leV bs 0 1) (leV bs 1 1) (leV bs 2 2) (leV bs 4 2) (leV bs 6 4)) (.slice none 0 0) (.slice none 0 0) (.slice none 0 0) (nil_one _) w7 w7.heap.size rfl rfl rfl ?_))
  have HG : Hid (GM w bs R b o C (gPs bs 0) 5 (.slice none 0 0) 0 (.slice none 0 0) 0 (.slice none 0 0) [] (w7.alloc (Obj.cells (msgL (bF (leV bs 0 1) (leV bs 1 1) (leV bs 2 2) (leV bs 4 2) (leV bs 6 4)) (.slice none 0 0) (.slice none 0 0) (.slice none 0 0)).toArray 30))) := Lib.hid (gm_start HX.out HA.out)
  have hsz := HA.out.sz
  generalize w7.alloc (Obj.cells (msgL (bF (leV bs 0 1) (leV bs 1 1) (leV bs 2 2) (leV bs 4 2) (leV bs 6 4)) (.slice none 0 0) (.slice none 0 0) (.slice none 0 0)).toArray 30) = w8 at *
  rw [hsz]
  clear HA hsz v0a v0b v1a v1b v2a v2b v3a v3b v4a v4b
  have c0 : w8.cell? ⟨w.heap.size + 1, 0, none⟩ = some (.int .i64 (gK bs)) := HG.out.msg.c0
  go_wp2_with fail
  clear c0
  refine (parts_any (gK bs) _).mono ?_
  rintro e w8' ⟨rfl, rfl⟩
  go_upto_region 3 with (fail)
  have A0 : Hid ((bits .and .i64 (max (partsN (gK bs)) 0) 1 == 0) = !hasB (gK bs) 0) := Lib.hid (by unfold hasB; rw [Bool.not_not]; rfl)
  have A1 : Hid ((bits .and .i64 (max (partsN (gK bs)) 0) 2 == 0) = !hasB (gK bs) 1) := Lib.hid (by unfold hasB; rw [Bool.not_not]; rfl)
  have A2 : Hid ((bits .and .i64 (max (partsN (gK bs)) 0) 4 == 0) = !hasB (gK bs) 2) := Lib.hid (by unfold hasB; rw [Bool.not_not]; rfl)
  have A3 : Hid ((bits .and .i64 (max (partsN (gK bs)) 0) 8 == 0) = !hasB (gK bs) 3) := Lib.hid (by unfold hasB; rw [Bool.not_not]; rfl)
  have A4 : Hid ((bits .and .i64 (max (partsN (gK bs)) 0) 16 == 0) = !hasB (gK bs) 4) := Lib.hid (by unfold hasB; rw [Bool.not_not]; rfl)
  have A5 : Hid ((bits .and .i64 (max (partsN (gK bs)) 0) 32 == 0) = !hasB (gK bs) 5) := Lib.hid (by unfold hasB; rw [Bool.not_not]; rfl)
  have A6 : Hid ((bits .and .i64 (max (partsN (gK bs)) 0) 64 == 0) = !hasB (gK bs) 6) := Lib.hid (by unfold hasB; rw [Bool.not_not]; rfl)
  have A7 : Hid ((bits .and .i64 (max (partsN (gK bs)) 0) 128 == 0) = !hasB (gK bs) 7) := Lib.hid (by unfold hasB; rw [Bool.not_not]; rfl)
  have A8 : Hid ((bits .and .i64 (max (partsN (gK bs)) 0) 256 == 0) = !hasB (gK bs) 8) := Lib.hid (by unfold hasB; rw [Bool.not_not]; rfl)
  have A9 : Hid ((bits .and .i64 (max (partsN (gK bs)) 0) 512 == 0) = !hasB (gK bs) 9) := Lib.hid (by unfold hasB; rw [Bool.not_not]; rfl)
  have A10 : Hid ((bits .and .i64 (max (partsN (gK bs)) 0) 1024 == 0) = !hasB (gK bs) 10) := Lib.hid (by unfold hasB; rw [Bool.not_not]; rfl)
  generalize max (partsN (gK bs)) 0 = h at *
  go_wp2_with fail
  refine (part_gm HX.out (hasB (gK bs) 0) h 1 (gV bs 0) 1 (gPs bs 1) HG.out A0.out (by omega) (by omega) (by rfl) (by rfl)).mono ?_
  rintro e w9 (⟨rfl, hg⟩ | ⟨hl, rfl, hd⟩)
  rotate_left
  · have HN : Hid (¬ POk bs) := Lib.hid (not_pok_part (by omega) hl.out)
    unfold wrongW
    go_wp2_with fail
    exact ⟨rfl, msgq_bad HN.out hd⟩
  replace HG := hg
  clear hg
  go_wp2_with fail
  refine (part_gm HX.out (hasB (gK bs) 1) h 2 (gV bs 1) 2 (gPs bs 2) HG.out A1.out (by omega) (by omega) (by rfl) (by rfl)).mono ?_
  rintro e w10 (⟨rfl, hg⟩ | ⟨hl, rfl, hd⟩)
  rotate_left
  · have HN : Hid (¬ POk bs) := Lib.hid (not_pok_part (by omega) hl.out)
    unfold wrongW
    go_wp2_with fail
    exact ⟨rfl, msgq_bad HN.out hd⟩
  replace HG := hg
  clear hg
  go_wp2_with fail
  refine (part_gm HX.out (hasB (gK bs) 2) h 4 (gV bs 2) 4 (gPs bs 3) HG.out A2.out (by omega) (by omega) (by rfl) (by rfl)).mono ?_
  rintro e w11 (⟨rfl, hg⟩ | ⟨hl, rfl, hd⟩)
  rotate_left
  · have HN : Hid (¬ POk bs) := Lib.hid (not_pok_part (by omega) hl.out)
    unfold wrongW
    go_wp2_with fail
    exact ⟨rfl, msgq_bad HN.out hd⟩
  replace HG := hg
  clear hg
  go_wp2_with fail
  refine (part_gm HX.out (hasB (gK bs) 3) h 8 (gV bs 3) 1 (gPs bs 4) HG.out A3.out (by omega) (by omega) (by rfl) (by rfl)).mono ?_
  rintro e w12 (⟨rfl, hg⟩ | ⟨hl, rfl, hd⟩)
  rotate_left
  · have HN : Hid (¬ POk bs) := Lib.hid (not_pok_part (by omega) hl.out)
    unfold wrongW
    go_wp2_with fail
    exact ⟨rfl, msgq_bad HN.out hd⟩
  replace HG := hg
  clear hg
  have c5 := HG.out.msg.c5
  have f5 : w12.frozen? ⟨w.heap.size + 1, 5, none⟩ = false := by have := (HG.out.th3 5 (by omega)).2; rwa [Nat.zero_add] at this
  have c6 := HG.out.msg.c6
  have f6 : w12.frozen? ⟨w.heap.size + 1, 6, none⟩ = false := by have := (HG.out.th3 6 (by omega)).2; rwa [Nat.zero_add] at this
  have c7 := HG.out.msg.c7
  have f7 : w12.frozen? ⟨w.heap.size + 1, 7, none⟩ = false := by have := (HG.out.th3 7 (by omega)).2; rwa [Nat.zero_add] at this
  have c8 := HG.out.msg.c8
  have f8 : w12.frozen? ⟨w.heap.size + 1, 8, none⟩ = false := by have := (HG.out.th3 8 (by omega)).2; rwa [Nat.zero_add] at this
  have hG2 : GM w bs R b o C (gPs bs 4) 9 (.slice none 0 0) 0 (.slice none 0 0) 0 (.slice none 0 0) [] ((((w12.setCell ⟨w.heap.size + 1, 5, none⟩ (.int .i64 (gV bs 0))).setCell ⟨w.heap.size + 1, 6, none⟩ (.int .i64 (gV bs 1))).setCell ⟨w.heap.size + 1, 7, none⟩ (.int .i64 (gV bs 2))).setCell ⟨w.heap.size + 1, 8, none⟩ (.int .i64 (gV bs 3))) := (GM.num (GM.num (GM.num (GM.num HG.out HX.out.hR HX.out.hb (by omega) (gV bs 0) (by rfl)) HX.out.hR HX.out.hb (by omega) (gV bs 1) (by rfl)) HX.out.hR HX.out.hb (by omega) (gV bs 2) (by rfl)) HX.out.hR HX.out.hb (by omega) (gV bs 3) (by rfl))
  replace HG := Lib.hid hG2
  clear hG2
  go_upto_region 4 with (fail)
  clear c5 c6 c7 c8 f5 f6 f7 f8
  generalize ((((w12.setCell ⟨w.heap.size + 1, 5, none⟩ (.int .i64 (gV bs 0))).setCell ⟨w.heap.size + 1, 6, none⟩ (.int .i64 (gV bs 1))).setCell ⟨w.heap.size + 1, 7, none⟩ (.int .i64 (gV bs 2))).setCell ⟨w.heap.size + 1, 8, none⟩ (.int .i64 (gV bs 3))) = w13 at *
  go_wp2_with fail
  refine (part_gm HX.out (hasB (gK bs) 4) h 16 (gV bs 4) 2 (gPs bs 5) HG.out A4.out (by omega) (by omega) (by rfl) (by rfl)).mono ?_
  rintro e w14 (⟨rfl, hg⟩ | ⟨hl, rfl, hd⟩)
  rotate_left
  · have HN : Hid (¬ POk bs) := Lib.hid (not_pok_part (by omega) hl.out)
    unfold wrongW
    go_wp2_with fail
    exact ⟨rfl, msgq_bad HN.out hd⟩
  replace HG := hg
  clear hg
  go_wp2_with fail
  refine (part_gm HX.out (hasB (gK bs) 5) h 32 (gV bs 5) 2 (gPs bs 6) HG.out A5.out (by omega) (by omega) (by rfl) (by rfl)).mono ?_
  rintro e w15 (⟨rfl, hg⟩ | ⟨hl, rfl, hd⟩)
  rotate_left
  · have HN : Hid (¬ POk bs) := Lib.hid (not_pok_part (by omega) hl.out)
    unfold wrongW
    go_wp2_with fail
    exact ⟨rfl, msgq_bad HN.out hd⟩
  replace HG := hg
  clear hg
  go_wp2_with fail
  refine (part_gm HX.out (hasB (gK bs) 6) h 64 (gV bs 6) 4 (gPs bs 7) HG.out A6.out (by omega) (by omega) (by rfl) (by rfl)).mono ?_
  rintro e w16 (⟨rfl, hg⟩ | ⟨hl, rfl, hd⟩)
  rotate_left
  · have HN : Hid (¬ POk bs) := Lib.hid (not_pok_part (by omega) hl.out)
    unfold wrongW
    go_wp2_with fail
    exact ⟨rfl, msgq_bad HN.out hd⟩
  replace HG := hg
  clear hg
  have hb6 := gV_bd HBY.out 6
  have hb6a := hb6.1
  have hb6b := hb6.2.1 (by decide)
  clear hb6
  have c9 := HG.out.msg.c9
  have f9 : w16.frozen? ⟨w.heap.size + 1, 9, none⟩ = false := by have := (HG.out.th3 9 (by omega)).2; rwa [Nat.zero_add] at this
  have c10 := HG.out.msg.c10
  have f10 : w16.frozen? ⟨w.heap.size + 1, 10, none⟩ = false := by have := (HG.out.th3 10 (by omega)).2; rwa [Nat.zero_add] at this
  have c11 := HG.out.msg.c11
  have f11 : w16.frozen? ⟨w.heap.size + 1, 11, none⟩ = false := by have := (HG.out.th3 11 (by omega)).2; rwa [Nat.zero_add] at this
  have hG2 : GM w bs R b o C (gPs bs 7) 12 (.slice none 0 0) 0 (.slice none 0 0) 0 (.slice none 0 0) [] (((w16.setCell ⟨w.heap.size + 1, 9, none⟩ (.int .i64 (gV bs 4))).setCell ⟨w.heap.size + 1, 10, none⟩ (.int .i64 (gV bs 5))).setCell ⟨w.heap.size + 1, 11, none⟩ (.int .u32 (gV bs 6))) := (GM.num (GM.num (GM.num HG.out HX.out.hR HX.out.hb (by omega) (gV bs 4) (by rfl)) HX.out.hR HX.out.hb (by omega) (gV bs 5) (by rfl)) HX.out.hR HX.out.hb (by omega) (gV bs 6) (by rfl))
  replace HG := Lib.hid hG2
  clear hG2
  go_upto_region 5 with (fail)
  clear c9 c10 c11 f9 f10 f11 hb6a hb6b
  generalize (((w16.setCell ⟨w.heap.size + 1, 9, none⟩ (.int .i64 (gV bs 4))).setCell ⟨w.heap.size + 1, 10, none⟩ (.int .i64 (gV bs 5))).setCell ⟨w.heap.size + 1, 11, none⟩ (.int .u32 (gV bs 6))) = w17 at *
  go_upto_if 58 with (fail)
  go_cut [4] (fun s4 wx => s4 = .int .i64 h ∧ GM w bs R b o C (gPs bs 8) 13 (.slice none 0 0) 0 (.slice none 0 0) 0 (.slice none 0 0) [] wx)
  case first =>
    rcases hh7 : hasB (gK bs) 7 with _ | _
    · have a7 := A7.out
      rw [hh7] at a7
      have n7 : (bits .and .i64 h 128 != 0) = false := by rw [bne, a7]; rfl
      have hG2 : GM w bs R b o C (gPs bs 8) 13 (.slice none 0 0) 0 (.slice none 0 0) 0 (.slice none 0 0) [] w17 := by
        have e1 : gPs bs 8 = gPs bs 7 := by show gPs bs 7 + (if hasB (gK bs) 7 then wdt 7 else 0) = gPs bs 7; rw [hh7]; rfl
        have e2 : gF bs 12 = 0 := by show gV bs 7 = 0; unfold gV; rw [hh7]; rfl
        rw [e1]
        exact HG.out.skip e2
      have HG2 := Lib.hid hG2
      clear hG2 a7 hh7
      go_wp2_with fail
      go_meet
      exact ⟨rfl, HG2.out⟩
    · have a7 := A7.out
      rw [hh7] at a7
      have n7 : (bits .and .i64 h 128 != 0) = true := by rw [bne, a7]; rfl
      have HP : Hid (gPs bs 8 = gPs bs 7 + 8 ∧ gV bs 7 = leV bs (gPs bs 7) 8) := Lib.hid (by
        refine ⟨?_, ?_⟩
        · show gPs bs 7 + (if hasB (gK bs) 7 then wdt 7 else 0) = gPs bs 7 + 8; rw [hh7]; rfl
        · unfold gV; rw [hh7]; rfl)
      clear a7 hh7
      go_wp2_with fail
      refine (num_gm HX.out HG.out 8 (by omega) (by omega)).mono ?_
      rintro e wq (⟨rfl, hg⟩ | ⟨hl, rfl, hd⟩)
      rotate_left
      · have HN : Hid (¬ POk bs) := Lib.hid (not_pok_part (j := 7) (by omega) (show bs.length < gPs bs 8 by have := HP.out.1; have := hl.out; omega))
        unfold wrongW
        go_wp2_with fail
        exact ⟨rfl, msgq_bad HN.out hd⟩
      replace HG := hg
      clear hg
      have c12 := HG.out.msg.c12
      have f12 : wq.frozen? ⟨w.heap.size + 1, 12, none⟩ = false := by have := (HG.out.th3 12 (by omega)).2; rwa [Nat.zero_add] at this
      have hG2 : GM w bs R b o C (gPs bs 8) 13 (.slice none 0 0) 0 (.slice none 0 0) 0 (.slice none 0 0) [] (wq.setCell ⟨w.heap.size + 1, 12, none⟩ (.int .u64 (leV bs (gPs bs 7) 8))) := by
        rw [HP.out.1]
        exact GM.num HG.out HX.out.hR HX.out.hb (by omega) _ (by show _ = gV bs 7; rw [HP.out.2])
      have HG2 := Lib.hid hG2
      clear hG2
      go_wp2_with fail
      go_meet
      exact ⟨rfl, HG2.out⟩
  case rest =>
    obtain ⟨rfl, hg⟩ := hcut
    clear HG
    have HG := Lib.hid hg
    clear hg
    have hi8 : ((gNi bs : Nat) : Int) = if hasB (gK bs) 8 then leV bs (gPs bs 8) 1 else 0 := by
      have := leV_nn HBY.out (gPs bs 8) 1
      unfold gNi
      split <;> omega
    have HI8 := Lib.hid hi8
    clear hi8
    go_wp2_with fail
    refine (part_gm HX.out (hasB (gK bs) 8) h 256 (gNi bs : Int) 1 (gQi bs) HG.out A8.out (by omega) (by omega) (by rfl) HI8.out).mono ?_
    rintro e w20 (⟨rfl, hg⟩ | ⟨hl, rfl, hd⟩)
    rotate_left
    · have HN : Hid (¬ POk bs) := Lib.hid (not_pok_qi hl.out)
      unfold wrongW
      go_wp2_with fail
      exact ⟨rfl, msgq_bad HN.out hd⟩
    replace HG := hg
    clear hg
    go_wp2_with fail
    have HNi := Lib.hid (gNi_lt HBY.out)
    go_loopw [5] (fun s5 wr => ∃ k i : Nat, ∃ iv : Value, k + i = gNi bs ∧ s5 = .int .i64 k ∧ GM w bs R b o C (gQi bs + 3 * i) 13 iv i (.slice none 0 0) 0 (.slice none 0 0) [] wr) (fun s5 _ => (intOf s5).toNat)
    case atStart => exact ⟨gNi bs, 0, _, rfl, rfl, HG.out⟩
    case round =>
      obtain ⟨k, i, iv, hki, rfl, hg⟩ := hrel
      clear HG
      have HG := Lib.hid hg
      clear hg
      rcases k with _ | k
      · have hiN : i = gNi bs := by omega
        subst hiN
        clear hki
        have hG2 : GM w bs R b o C (gQl bs) 13 iv (gNi bs) (.slice none 0 0) 0 (.slice none 0 0) [] wr := HG.out
        replace HG := Lib.hid hG2
        clear hG2
        have hl8 : ((gNl bs : Nat) : Int) = if hasB (gK bs) 9 then leV bs (gQl bs) 1 else 0 := by
          have := leV_nn HBY.out (gQl bs) 1
          unfold gNl
          split <;> omega
        have HL8 := Lib.hid hl8
        clear hl8
        go_wp2_with fail
        refine (part_gm HX.out (hasB (gK bs) 9) h 512 (gNl bs : Int) 1 (gQe bs 0) HG.out A9.out (by omega) (by omega) (by rfl) HL8.out).mono ?_
        rintro e w21 (⟨rfl, hg⟩ | ⟨hl, rfl, hd⟩)
        rotate_left
        · have HN : Hid (¬ POk bs) := Lib.hid (not_pok_q0 hl.out)
          unfold wrongW
          go_wp2_with fail
          exact ⟨rfl, msgq_bad HN.out hd⟩
        replace HG := hg
        clear hg
        go_wp2_with fail
        have HNl := Lib.hid (gNl_lt HBY.out)
        go_loopw [6] (fun s6 wr => ∃ k j : Nat, ∃ lv : Value, k + j = gNl bs ∧ s6 = .int .i64 k ∧ (∀ q, q < j → OkG (eBy bs (gQe bs q))) ∧ GM w bs R b o C (gQe bs j) 13 iv (gNi bs) lv j (.slice none 0 0) [] wr) (fun s6 _ => (intOf s6).toNat)
        case atStart => exact ⟨gNl bs, 0, _, rfl, rfl, fun q hq => absurd hq (by omega), HG.out⟩
        case round =>
          obtain ⟨k, j, lv, hkj, rfl, hoks, hg⟩ := hrel
          have HOks := Lib.hid hoks
          clear hoks
          clear HG
          have HG := Lib.hid hg
          clear hg
          rcases k with _ | k
          · have hjN : j = gNl bs := by omega
            subst hjN
            clear hkj
            have hG2 : GM w bs R b o C (gQd bs) 13 iv (gNi bs) lv (gNl bs) (.slice none 0 0) [] wr := HG.out
            replace HG := Lib.hid hG2
            clear hG2
            go_upto_region 15 with (fail)
            have HOk : Hid (gEnd bs ≤ bs.length → POk bs) := Lib.hid (fun h => ⟨h, HOks.out⟩)
            go_cut [3] (fun s3 wx => s3 = .pointer (some ⟨w.heap.size + 1, 0, none⟩) ∧ gEnd bs ≤ bs.length ∧ ∃ dv : Value, GM w bs R b o C (gEnd bs) 13 iv (gNi bs) lv (gNl bs) dv (gDt bs) wx)
            case first =>
              have hd8 : ((gNd bs : Nat) : Int) = if hasB (gK bs) 10 then leV bs (gQd bs) 1 else 0 := by
                have := leV_nn HBY.out (gQd bs) 1
                unfold gNd
                split <;> omega
              have HD8 := Lib.hid hd8
              have HNd := Lib.hid (gNd_lt HBY.out)
              have HG0 := Lib.hid (HG.out.drew HX.out.hR HX.out.hb HX.out.ne)
              have cN0 := HG0.out.msg.c15
              clear hd8 HG
              refine wp_region_any (by kernel_rfl) ?_
              change wpAny _ _ _ _ _ _ _ (World.drew _)
              refine wpAny_take (i := 0) (v := ?_) rfl (by kernel_rfl) (by kernel_rfl) (by kernel_rfl) (fun _ _ _ h => h) (Or.inl ⟨by rfl, ?_⟩) ?_
              rotate_left 1
              · intro w; go_simp; try with_reducible rfl
              refine wpAny_take (i := 2) (v := ?_) rfl (by kernel_rfl) (by kernel_rfl) (by kernel_rfl) (fun _ _ _ h => h) (Or.inl ⟨by rfl, ?_⟩) ?_
              rotate_left 1
              · intro w; go_simp; try with_reducible rfl
              refine wpAny_take (i := 3) (v := ?_) rfl (by kernel_rfl) (by kernel_rfl) (by kernel_rfl) (fun _ _ _ h => h) (Or.inl ⟨by rfl, ?_⟩) ?_
              rotate_left 1
              · intro w; go_simp; try with_reducible rfl
              refine wpAny_take (i := 4) (v := ?_) rfl (by kernel_rfl) (by kernel_rfl) (by kernel_rfl) (fun _ _ _ h => h) (Or.inl ⟨by rfl, ?_⟩) ?_
              rotate_left 1
              · intro w; go_simp; try with_reducible rfl
              refine wpAny_ready (rs := [1, 5]) (by kernel_rfl) (by simp) ?_
              refine AllReady.cons rfl (fun K hK => ?_) (AllReady.cons rfl (fun K hK => ?_) AllReady.nil)
              · skip
                go_simp
                refine hK _ _ ?_
                clear hK K
                refine wpAny_ready (rs := [5]) (by kernel_rfl) (by simp) ?_
                refine AllReady.cons rfl (fun K hK => ?_) AllReady.nil
                go_simp
                go_at_call 58
                refine (part_gm HX.out (hasB (gK bs) 10) h 1024 (gNd bs : Int) 1 (gQt bs) HG0.out A10.out (by omega) (by omega) (by rfl) HD8.out).mono ?_
                rintro e w1 (⟨rfl, HG1⟩ | ⟨hl, rfl, hd⟩)
                rotate_left
                · have HN : Hid (¬ POk bs) := Lib.hid (not_pok_qt hl.out)
                  exact ⟨rfl, msgq_bad HN.out hd⟩
                have cN1 := HG1.out.msg.c15
                clear HG0 cN0
                refine hK _ _ ?_
                clear hK K
                refine wpAny_ready (rs := [6]) (by kernel_rfl) (by simp) ?_
                refine AllReady.cons rfl (fun K hK => ?_) AllReady.nil
                go_simp
                go_at_call 57
                refine (raw_gm HX.out HG1.out).mono ?_
                rintro e w2 (⟨ad, rfl, HEnd, HG2, HDl, HDc⟩ | ⟨hl, rfl, hd⟩)
                rotate_left
                · exact ⟨rfl, msgq_bad hl.out hd⟩
                have cN2 := HG2.out.msg.c15
                clear HG1 cN1
                refine hK _ _ ?_
                clear hK K
                refine wpAny_ready (rs := [7]) (by kernel_rfl) (by simp) ?_
                refine AllReady.cons rfl (fun K hK => ?_) AllReady.nil
                refine step_appR rfl (.tmp 99) (.tmp 104) rfl (w.heap.size + 2) (.slice none 0 0) [] (gDt bs) HG2.out.od (by have := HG2.out.lt; omega) (some ad) (gNd bs) (C - gQt bs) HDl.out (by simp [Act.eval, Act.put]) (by simp [Act.eval, Act.put]) (fun ad' e j u hj => by injection e with e; subst e; exact HDc.out j u hj) (by intro h; cases h) (by have := HNd.out; simp; omega) ?_
                intro v' w' hO ha
                rw [List.nil_append] at hO
                obtain ⟨a9, n9, c9, rfl⟩ : ∃ a n c, v' = .slice a n c := by
                  rcases hO.2 with ⟨e, -⟩ | ⟨g, cap, cur, e, -⟩
                  · exact ⟨_, _, _, e⟩
                  · exact ⟨_, _, _, e⟩
                obtain ⟨hG', hc', hf'⟩ := HG2.out.dat HX.out.hR HX.out.hb rfl hO ha.grown
                have HG' := Lib.hid hG'
                clear hG' hO ha HG2 cN2 HDc HDl
                refine hK _ _ ?_
                clear hK K
                refine wpAny_take (i := 8) (v := ?_) rfl (by kernel_rfl) (by kernel_rfl) (by kernel_rfl) (fun _ _ _ h => h) (Or.inl ⟨by rfl, ?_⟩) ?_
                rotate_left 1
                · intro w; go_simp; try with_reducible rfl
                refine wpAny_ready (rs := [9]) (by kernel_rfl) (by simp) ?_
                refine AllReady.cons rfl (fun K hK => ?_) AllReady.nil
                go_simp
                refine hK _ _ ?_
                clear hK K
                refine wpAny_done (by kernel_rfl) ?_ _
                clear hc' hf'
                go_wp2_with fail
                go_meet
                exact ⟨rfl, HEnd.out, _, HG'.out⟩
              · skip
                go_simp
                go_at_call 58
                refine (part_gm HX.out (hasB (gK bs) 10) h 1024 (gNd bs : Int) 1 (gQt bs) HG0.out A10.out (by omega) (by omega) (by rfl) HD8.out).mono ?_
                rintro e w1 (⟨rfl, HG1⟩ | ⟨hl, rfl, hd⟩)
                rotate_left
                · have HN : Hid (¬ POk bs) := Lib.hid (not_pok_qt hl.out)
                  exact ⟨rfl, msgq_bad HN.out hd⟩
                have cN1 := HG1.out.msg.c15
                clear HG0 cN0
                refine hK _ _ ?_
                clear hK K
                refine wpAny_ready (rs := [1, 6]) (by kernel_rfl) (by simp) ?_
                refine AllReady.cons rfl (fun K hK => ?_) (AllReady.cons rfl (fun K hK => ?_) AllReady.nil)
                · skip
                  go_simp
                  refine hK _ _ ?_
                  clear hK K
                  refine wpAny_ready (rs := [6]) (by kernel_rfl) (by simp) ?_
                  refine AllReady.cons rfl (fun K hK => ?_) AllReady.nil
                  go_simp
                  go_at_call 57
                  refine (raw_gm HX.out HG1.out).mono ?_
                  rintro e w2 (⟨ad, rfl, HEnd, HG2, HDl, HDc⟩ | ⟨hl, rfl, hd⟩)
                  rotate_left
                  · exact ⟨rfl, msgq_bad hl.out hd⟩
                  have cN2 := HG2.out.msg.c15
                  clear HG1 cN1
                  refine hK _ _ ?_
                  clear hK K
                  refine wpAny_ready (rs := [7]) (by kernel_rfl) (by simp) ?_
                  refine AllReady.cons rfl (fun K hK => ?_) AllReady.nil
                  refine step_appR rfl (.tmp 99) (.tmp 104) rfl (w.heap.size + 2) (.slice none 0 0) [] (gDt bs) HG2.out.od (by have := HG2.out.lt; omega) (some ad) (gNd bs) (C - gQt bs) HDl.out (by simp [Act.eval, Act.put]) (by simp [Act.eval, Act.put]) (fun ad' e j u hj => by injection e with e; subst e; exact HDc.out j u hj) (by intro h; cases h) (by have := HNd.out; simp; omega) ?_
                  intro v' w' hO ha
                  rw [List.nil_append] at hO
                  obtain ⟨a9, n9, c9, rfl⟩ : ∃ a n c, v' = .slice a n c := by
                    rcases hO.2 with ⟨e, -⟩ | ⟨g, cap, cur, e, -⟩
                    · exact ⟨_, _, _, e⟩
                    · exact ⟨_, _, _, e⟩
                  obtain ⟨hG', hc', hf'⟩ := HG2.out.dat HX.out.hR HX.out.hb rfl hO ha.grown
                  have HG' := Lib.hid hG'
                  clear hG' hO ha HG2 cN2 HDc HDl
                  refine hK _ _ ?_
                  clear hK K
                  refine wpAny_take (i := 8) (v := ?_) rfl (by kernel_rfl) (by kernel_rfl) (by kernel_rfl) (fun _ _ _ h => h) (Or.inl ⟨by rfl, ?_⟩) ?_
                  rotate_left 1
                  · intro w; go_simp; try with_reducible rfl
                  refine wpAny_ready (rs := [9]) (by kernel_rfl) (by simp) ?_
                  refine AllReady.cons rfl (fun K hK => ?_) AllReady.nil
                  go_simp
                  refine hK _ _ ?_
                  clear hK K
                  refine wpAny_done (by kernel_rfl) ?_ _
                  clear hc' hf'
                  go_wp2_with fail
                  go_meet
                  exact ⟨rfl, HEnd.out, _, HG'.out⟩
                · skip
                  go_simp
                  go_at_call 57
                  refine (raw_gm HX.out HG1.out).mono ?_
                  rintro e w2 (⟨ad, rfl, HEnd, HG2, HDl, HDc⟩ | ⟨hl, rfl, hd⟩)
                  rotate_left
                  · exact ⟨rfl, msgq_bad hl.out hd⟩
                  have cN2 := HG2.out.msg.c15
                  clear HG1 cN1
                  refine hK _ _ ?_
                  clear hK K
                  refine wpAny_ready (rs := [1]) (by kernel_rfl) (by simp) ?_
                  refine AllReady.cons rfl (fun K hK => ?_) AllReady.nil
                  go_simp
                  refine hK _ _ ?_
                  clear hK K
                  refine wpAny_ready (rs := [7]) (by kernel_rfl) (by simp) ?_
                  refine AllReady.cons rfl (fun K hK => ?_) AllReady.nil
                  refine step_appR rfl (.tmp 99) (.tmp 104) rfl (w.heap.size + 2) (.slice none 0 0) [] (gDt bs) HG2.out.od (by have := HG2.out.lt; omega) (some ad) (gNd bs) (C - gQt bs) HDl.out (by simp [Act.eval, Act.put]) (by simp [Act.eval, Act.put]) (fun ad' e j u hj => by injection e with e; subst e; exact HDc.out j u hj) (by intro h; cases h) (by have := HNd.out; simp; omega) ?_
                  intro v' w' hO ha
                  rw [List.nil_append] at hO
                  obtain ⟨a9, n9, c9, rfl⟩ : ∃ a n c, v' = .slice a n c := by
                    rcases hO.2 with ⟨e, -⟩ | ⟨g, cap, cur, e, -⟩
                    · exact ⟨_, _, _, e⟩
                    · exact ⟨_, _, _, e⟩
                  obtain ⟨hG', hc', hf'⟩ := HG2.out.dat HX.out.hR HX.out.hb rfl hO ha.grown
                  have HG' := Lib.hid hG'
                  clear hG' hO ha HG2 cN2 HDc HDl
                  refine hK _ _ ?_
                  clear hK K
                  refine wpAny_take (i := 8) (v := ?_) rfl (by kernel_rfl) (by kernel_rfl) (by kernel_rfl) (fun _ _ _ h => h) (Or.inl ⟨by rfl, ?_⟩) ?_
                  rotate_left 1
                  · intro w; go_simp; try with_reducible rfl
                  refine wpAny_ready (rs := [9]) (by kernel_rfl) (by simp) ?_
                  refine AllReady.cons rfl (fun K hK => ?_) AllReady.nil
                  go_simp
                  refine hK _ _ ?_
                  clear hK K
                  refine wpAny_done (by kernel_rfl) ?_ _
                  clear hc' hf'
                  go_wp2_with fail
                  go_meet
                  exact ⟨rfl, HEnd.out, _, HG'.out⟩
            case rest =>
              obtain ⟨rfl, hend, dv, hg⟩ := hcut
              clear HG
              have HG := Lib.hid hg
              clear hg
              have HPk := Lib.hid (HOk.out hend)
              have hmA : MsgAt wc (w.heap.size + 1) (gF bs) iv lv dv := HG.out.msg.congr (fun k hk => by unfold gFs; rw [if_pos hk])
              have HMA := Lib.hid hmA
              have hone := msgL_one (M := prsM bs) ⟨HG.out.oi.inps, HG.out.ol.ents, HG.out.od.bytes0⟩ (gF bs)
              have HOne := Lib.hid hone
              have HT2 : Hid (wc.there w.heap.size 0 (msgL (gF bs) iv lv dv).toArray.size) := Lib.hid (by
                have e : (msgL (gF bs) iv lv dv).toArray.size = 16 := by rw [List.size_toArray, msgL_len]
                rw [e]; exact HG.out.th2)
              have HFin : Hid (MsgAt (wc.setCells w.heap.size 0 (msgL (gF bs) iv lv dv)) w.heap.size (gF bs) iv lv dv ∧ OwnI (wc.setCells w.heap.size 0 (msgL (gF bs) iv lv dv)) w.heap.size iv (gNi bs) (gIn bs) ∧ OwnL (wc.setCells w.heap.size 0 (msgL (gF bs) iv lv dv)) w.heap.size lv (gNl bs) (gD bs) ∧ OwnB (wc.setCells w.heap.size 0 (msgL (gF bs) iv lv dv)) w.heap.size dv (gDt bs) ∧ RdW R w (wc.setCells w.heap.size 0 (msgL (gF bs) iv lv dv))) := Lib.hid (gm_end HG.out (gF bs))
              clear hmA hone HG hend HOk HOks
              go_wp2_with (first | (refine wpList_load_g (op := ⟨some 107, _, _, _, _, _⟩) (by rfl) 30 _ rfl (w.heap.size + 1) 0 rfl _ _ HMA.out.range Try.underlying30 rfl (size_msg _ _ _ _) ?_) | (refine wpList_store_mid (op := ⟨none, Op.store 30 (.tmp 2) _, _, _, _, _⟩) rfl 30 _ _ rfl w.heap.size 0 (msgL (gF bs) iv lv dv).toArray rfl rfl HT2.out (size_msg _ _ _ _) HOne.out ?_))
              generalize wc.setCells w.heap.size 0 (msgL (gF bs) iv lv dv) = w6 at *
              exact bodyPost_ret (v := .agg (msgL (gF bs) iv lv dv).toArray) (results_msg _ _ w.heap.size rfl (gF bs) iv lv dv HFin.out.1) rfl (Or.inl ⟨HPk.out, ⟨iv, lv, dv, rfl, HFin.out.2.1, HFin.out.2.2.1, HFin.out.2.2.2.1⟩, HFin.out.2.2.2.2⟩)
          · have hkI : (0 : Int) < ((k + 1 : Nat) : Int) := by omega
            have HKJ := Lib.hid hkj
            have hj300 : j ≤ 300 := by have := HNl.out; omega
            have hk64 : (k : Int) ≤ 300 := by have := HNl.out; omega
            clear hkj
            go_upto_block 3 with (fail)
            go_cut [3] (fun s3 wx => s3 = .pointer (some ⟨w.heap.size + 1, 0, none⟩) ∧ ∃ lv' : Value, GM w bs R b o C (gQe bs (j + 1)) 13 iv (gNi bs) lv' (j + 1) (.slice none 0 0) [] wx ∧ OkG (eBy bs (gQe bs j)))
            case first =>
              have HG0 := Lib.hid (HG.out.drew HX.out.hR HX.out.hb HX.out.ne)
              have cN0 := HG0.out.msg.c14
              have hj1000 : j ≤ 1000 := by omega
              have HNL : Hid (j < gNl bs) := Lib.hid (by have := HKJ.out; omega)
              clear HG
              go_upto_region 14 with (fail)
              refine wp_region_any (by kernel_rfl) ?_
              change wpAny _ _ _ _ _ _ _ (World.drew _)
              refine wpAny_take (i := 0) (v := ?_) rfl (by kernel_rfl) (by kernel_rfl) (by kernel_rfl) (fun _ _ _ h => h) (Or.inl ⟨by rfl, ?_⟩) ?_
              rotate_left 1
              · intro w; go_simp; try with_reducible rfl
              refine wpAny_take (i := 2) (v := ?_) rfl (by kernel_rfl) (by kernel_rfl) (by kernel_rfl) (fun _ _ _ h => h) (Or.inl ⟨by rfl, ?_⟩) ?_
              rotate_left 1
              · intro w; go_simp; try with_reducible rfl
              refine wpAny_ready (rs := [1, 3]) (by kernel_rfl) (by simp) ?_
              refine AllReady.cons rfl (fun K hK => ?_) (AllReady.cons rfl (fun K hK => ?_) AllReady.nil)
              · skip
                go_simp
                refine hK _ _ ?_
                clear hK K
                refine wpAny_ready (rs := [3]) (by kernel_rfl) (by simp) ?_
                refine AllReady.cons rfl (fun K hK => ?_) AllReady.nil
                go_simp
                go_at_call 59
                refine (log_gm HX.out HG0.out HNL.out).mono ?_
                rintro e w1 (⟨sv, rfl, HG1, HSV, HSep, HOkG⟩ | ⟨hl, rfl, hd⟩)
                rotate_left
                · exact ⟨rfl, msgq_bad hl.out hd⟩
                have cN1 := HG1.out.msg.c14
                clear HG0 cN0
                refine hK _ _ ?_
                clear hK K
                refine wpAny_ready (rs := [4]) (by kernel_rfl) (by simp) ?_
                refine AllReady.cons rfl (fun K hK => ?_) AllReady.nil
                refine step_bs_ent rfl (.tmp 94) rfl (gD bs j).fr sv (gD bs j).I (by simp [Act.eval, Act.put]) ?_
                refine hK _ _ ?_
                clear hK K
                refine wpAny_ready (rs := [5]) (by kernel_rfl) (by simp) ?_
                refine AllReady.cons rfl (fun K hK => ?_) AllReady.nil
                refine step_app_en rfl (.tmp 92) (.tmp 95) rfl (w.heap.size + 2) lv j (gD bs) HG1.out.ol hj1000 (by simp [Act.eval, Act.put]) (by have := HG1.out.lt; omega) sv HSV.out HSep.out rfl (by simp [Act.eval, Act.put]) ?_
                intro v' w' hO hg hob hex
                obtain ⟨g, cap, rfl⟩ := hex
                obtain ⟨hG', hc', hf'⟩ := HG1.out.ent HX.out.hR HX.out.hb rfl hO hg hob
                have HG' := Lib.hid hG'
                clear hG' hO hg hob HG1 cN1 HSV HSep
                try clear cA
                refine hK _ _ ?_
                clear hK K
                refine wpAny_take (i := 6) (v := ?_) rfl (by kernel_rfl) (by kernel_rfl) (by kernel_rfl) (fun _ _ _ h => h) (Or.inl ⟨by rfl, ?_⟩) ?_
                rotate_left 1
                · intro w; go_simp; try with_reducible rfl
                refine wpAny_ready (rs := [7]) (by kernel_rfl) (by simp) ?_
                refine AllReady.cons rfl (fun K hK => ?_) AllReady.nil
                go_simp
                refine hK _ _ ?_
                clear hK K
                refine wpAny_done (by kernel_rfl) ?_ _
                clear hc' hf'
                go_wp2_with fail
                go_meet
                exact ⟨rfl, _, HG'.out, HOkG.out⟩
              · skip
                go_simp
                go_at_call 59
                refine (log_gm HX.out HG0.out HNL.out).mono ?_
                rintro e w1 (⟨sv, rfl, HG1, HSV, HSep, HOkG⟩ | ⟨hl, rfl, hd⟩)
                rotate_left
                · exact ⟨rfl, msgq_bad hl.out hd⟩
                have cN1 := HG1.out.msg.c14
                clear HG0 cN0
                refine hK _ _ ?_
                clear hK K
                refine wpAny_ready (rs := [1, 4]) (by kernel_rfl) (by simp) ?_
                refine AllReady.cons rfl (fun K hK => ?_) (AllReady.cons rfl (fun K hK => ?_) AllReady.nil)
                · skip
                  go_simp
                  refine hK _ _ ?_
                  clear hK K
                  refine wpAny_ready (rs := [4]) (by kernel_rfl) (by simp) ?_
                  refine AllReady.cons rfl (fun K hK => ?_) AllReady.nil
                  refine step_bs_ent rfl (.tmp 94) rfl (gD bs j).fr sv (gD bs j).I (by simp [Act.eval, Act.put]) ?_
                  refine hK _ _ ?_
                  clear hK K
                  refine wpAny_ready (rs := [5]) (by kernel_rfl) (by simp) ?_
                  refine AllReady.cons rfl (fun K hK => ?_) AllReady.nil
                  refine step_app_en rfl (.tmp 92) (.tmp 95) rfl (w.heap.size + 2) lv j (gD bs) HG1.out.ol hj1000 (by simp [Act.eval, Act.put]) (by have := HG1.out.lt; omega) sv HSV.out HSep.out rfl (by simp [Act.eval, Act.put]) ?_
                  intro v' w' hO hg hob hex
                  obtain ⟨g, cap, rfl⟩ := hex
                  obtain ⟨hG', hc', hf'⟩ := HG1.out.ent HX.out.hR HX.out.hb rfl hO hg hob
                  have HG' := Lib.hid hG'
                  clear hG' hO hg hob HG1 cN1 HSV HSep
                  try clear cA
                  refine hK _ _ ?_
                  clear hK K
                  refine wpAny_take (i := 6) (v := ?_) rfl (by kernel_rfl) (by kernel_rfl) (by kernel_rfl) (fun _ _ _ h => h) (Or.inl ⟨by rfl, ?_⟩) ?_
                  rotate_left 1
                  · intro w; go_simp; try with_reducible rfl
                  refine wpAny_ready (rs := [7]) (by kernel_rfl) (by simp) ?_
                  refine AllReady.cons rfl (fun K hK => ?_) AllReady.nil
                  go_simp
                  refine hK _ _ ?_
                  clear hK K
                  refine wpAny_done (by kernel_rfl) ?_ _
                  clear hc' hf'
                  go_wp2_with fail
                  go_meet
                  exact ⟨rfl, _, HG'.out, HOkG.out⟩
                · skip
                  have cA := fun o => (World.cell?_of_block (a := ⟨w.heap.size + 1, 14, none⟩) (Below.heap_alloc w1 o (w.heap.size + 1) HG1.out.lt)).trans cN1
                  refine step_bs_ent rfl (.tmp 94) rfl (gD bs j).fr sv (gD bs j).I (by simp [Act.eval, Act.put]) ?_
                  refine hK _ _ ?_
                  clear hK K
                  refine wpAny_ready (rs := [1]) (by kernel_rfl) (by simp) ?_
                  refine AllReady.cons rfl (fun K hK => ?_) AllReady.nil
                  go_simp
                  refine hK _ _ ?_
                  clear hK K
                  refine wpAny_ready (rs := [5]) (by kernel_rfl) (by simp) ?_
                  refine AllReady.cons rfl (fun K hK => ?_) AllReady.nil
                  refine step_app_en rfl (.tmp 92) (.tmp 95) rfl (w.heap.size + 2) lv j (gD bs) HG1.out.ol hj1000 (by simp [Act.eval, Act.put]) (by have := HG1.out.lt; omega) sv HSV.out HSep.out rfl (by simp [Act.eval, Act.put]) ?_
                  intro v' w' hO hg hob hex
                  obtain ⟨g, cap, rfl⟩ := hex
                  obtain ⟨hG', hc', hf'⟩ := HG1.out.ent HX.out.hR HX.out.hb rfl hO hg hob
                  have HG' := Lib.hid hG'
                  clear hG' hO hg hob HG1 cN1 HSV HSep
                  try clear cA
                  refine hK _ _ ?_
                  clear hK K
                  refine wpAny_take (i := 6) (v := ?_) rfl (by kernel_rfl) (by kernel_rfl) (by kernel_rfl) (fun _ _ _ h => h) (Or.inl ⟨by rfl, ?_⟩) ?_
                  rotate_left 1
                  · intro w; go_simp; try with_reducible rfl
                  refine wpAny_ready (rs := [7]) (by kernel_rfl) (by simp) ?_
                  refine AllReady.cons rfl (fun K hK => ?_) AllReady.nil
                  go_simp
                  refine hK _ _ ?_
                  clear hK K
                  refine wpAny_done (by kernel_rfl) ?_ _
                  clear hc' hf'
                  go_wp2_with fail
                  go_meet
                  exact ⟨rfl, _, HG'.out, HOkG.out⟩
            case rest =>
              obtain ⟨rfl, lv2, hg, hok1⟩ := hcut
              have HOks2 : Hid (∀ q, q < j + 1 → OkG (eBy bs (gQe bs q))) := Lib.hid (fun q hq => by
                by_cases e : q = j
                · subst e; exact hok1
                · exact HOks.out q (by omega))
              clear hok1
              clear HG
              have HG := Lib.hid hg
              clear hg
              go_wp2_with fail
              exact ⟨⟨k, j + 1, lv2, by have := HKJ.out; omega, rfl, HOks2.out, HG.out⟩, by first | (simp [intOf]; done) | (simp [intOf]; omega)⟩
      · have hkI : (0 : Int) < ((k + 1 : Nat) : Int) := by omega
        have HKI := Lib.hid hki
        have hi300 : i ≤ 300 := by have := HNi.out; omega
        have hk64 : (k : Int) ≤ 300 := by have := HNi.out; omega
        clear hki
        go_upto_block 1 with (fail)
        go_cut [3] (fun s3 wx => s3 = .pointer (some ⟨w.heap.size + 1, 0, none⟩) ∧ ∃ iv' : Value, GM w bs R b o C (gQi bs + 3 * (i + 1)) 13 iv' (i + 1) (.slice none 0 0) 0 (.slice none 0 0) [] wx)
        case first =>
          have HG0 := Lib.hid (HG.out.drew HX.out.hR HX.out.hb HX.out.ne)
          have cN0 := HG0.out.msg.c13
          have hi1000 : i ≤ 1000 := by omega
          obtain ⟨p0, h0⟩ : ∃ p, gQi bs + 3 * i = p := ⟨_, rfl⟩
          obtain ⟨p1, h1⟩ : ∃ p, p0 + 1 = p := ⟨_, rfl⟩
          obtain ⟨p2, h2⟩ : ∃ p, p1 + 1 = p := ⟨_, rfl⟩
          obtain ⟨p3, h3⟩ : ∃ p, p2 + 1 = p := ⟨_, rfl⟩
          rw [h0] at HG0
          have X0 : Hid (IntKind.i8.wrap (zz bs p0) = gIn bs (i * 3)) := Lib.hid (by
            rw [i8_wrap_sgn _ (HBY.out _)]; unfold gIn; rw [if_neg (by omega), show gQi bs + i * 3 = p0 by omega])
          have X1 : Hid (IntKind.i8.wrap (zz bs p1) = gIn bs (i * 3 + 1)) := Lib.hid (by
            rw [i8_wrap_sgn _ (HBY.out _)]; unfold gIn; rw [if_neg (by omega), show gQi bs + (i * 3 + 1) = p1 by omega])
          have X2 : Hid (IntKind.u8.wrap (zz bs p2) = gIn bs (i * 3 + 2)) := Lib.hid (by
            rw [u8_wrap_id _ (HBY.out _)]; unfold gIn; rw [if_pos (by omega), show gQi bs + (i * 3 + 2) = p2 by omega])
          have HBad : Hid (∀ p, p ≤ p3 → bs.length < p → ¬ POk bs) := Lib.hid (fun p hp hl => not_pok_in (i := i) (by have := HKI.out; omega) (by omega))
          have HFin : Hid (∀ (iv' : Value) (W : World), GM w bs R b o C p3 13 iv' (i + 1) (.slice none 0 0) 0 (.slice none 0 0) [] W → GM w bs R b o C (gQi bs + 3 * (i + 1)) 13 iv' (i + 1) (.slice none 0 0) 0 (.slice none 0 0) [] W) := Lib.hid (fun iv' W h => by rw [show gQi bs + 3 * (i + 1) = p3 by omega]; exact h)
          have z2 := HBY.out p2
          have H1 := Lib.hid h1
          have H2 := Lib.hid h2
          have H3 := Lib.hid h3
          clear h0 h1 h2 h3 HG
          go_upto_region 10 with (fail)
          refine wp_region_any (by kernel_rfl) ?_
          change wpAny _ _ _ _ _ _ _ (World.drew _)
          refine wpAny_take (i := 0) (v := ?_) rfl (by kernel_rfl) (by kernel_rfl) (by kernel_rfl) (fun _ _ _ h => h) (Or.inl ⟨by rfl, ?_⟩) ?_
          rotate_left 1
          · intro w; go_simp; try with_reducible rfl
          refine wpAny_take (i := 2) (v := ?_) rfl (by kernel_rfl) (by kernel_rfl) (by kernel_rfl) (fun _ _ _ h => h) (Or.inl ⟨by rfl, ?_⟩) ?_
          rotate_left 1
          · intro w; go_simp; try with_reducible rfl
          refine wpAny_take (i := 5) (v := ?_) rfl (by kernel_rfl) (by kernel_rfl) (by kernel_rfl) (fun _ _ _ h => h) (Or.inl ⟨by rfl, ?_⟩) ?_
          rotate_left 1
          · intro w; go_simp; try with_reducible rfl
          refine wpAny_take (i := 8) (v := ?_) rfl (by kernel_rfl) (by kernel_rfl) (by kernel_rfl) (fun _ _ _ h => h) (Or.inl ⟨by rfl, ?_⟩) ?_
          rotate_left 1
          · intro w; go_simp; try with_reducible rfl
          refine wpAny_ready (rs := [1, 3]) (by kernel_rfl) (by simp) ?_
          refine AllReady.cons rfl (fun K hK => ?_) (AllReady.cons rfl (fun K hK => ?_) AllReady.nil)
          · skip
            go_simp
            refine hK _ _ ?_
            clear hK K
            refine wpAny_ready (rs := [3]) (by kernel_rfl) (by simp) ?_
            refine AllReady.cons rfl (fun K hK => ?_) AllReady.nil
            go_simp
            go_at_call 42
            refine (num1_gm HX.out HG0.out p1 H1.out).mono ?_
            rintro e w1 (⟨rfl, HG1⟩ | ⟨hl, rfl, hd⟩)
            rotate_left
            · have HN : Hid (¬ POk bs) := Lib.hid (HBad.out p1 (by have h1 := H1.out; have h2 := H2.out; have h3 := H3.out; omega) hl.out)
              exact ⟨rfl, msgq_bad HN.out hd⟩
            have cN1 := HG1.out.msg.c13
            clear HG0 cN0
            refine hK _ _ ?_
            clear hK K
            refine wpAny_take (i := 4) (v := ?_) rfl (by kernel_rfl) (by kernel_rfl) (by kernel_rfl) (fun _ _ _ h => h) (Or.inl ⟨by rfl, ?_⟩) ?_
            rotate_left 1
            · intro w; go_simp; try with_reducible rfl
            refine wpAny_ready (rs := [6]) (by kernel_rfl) (by simp) ?_
            refine AllReady.cons rfl (fun K hK => ?_) AllReady.nil
            go_simp
            go_at_call 42
            refine (num1_gm HX.out HG1.out p2 H2.out).mono ?_
            rintro e w2 (⟨rfl, HG2⟩ | ⟨hl, rfl, hd⟩)
            rotate_left
            · have HN : Hid (¬ POk bs) := Lib.hid (HBad.out p2 (by have h1 := H1.out; have h2 := H2.out; have h3 := H3.out; omega) hl.out)
              exact ⟨rfl, msgq_bad HN.out hd⟩
            have cN2 := HG2.out.msg.c13
            clear HG1 cN1
            refine hK _ _ ?_
            clear hK K
            refine wpAny_take (i := 7) (v := ?_) rfl (by kernel_rfl) (by kernel_rfl) (by kernel_rfl) (fun _ _ _ h => h) (Or.inl ⟨by rfl, ?_⟩) ?_
            rotate_left 1
            · intro w; go_simp; try with_reducible rfl
            refine wpAny_ready (rs := [9]) (by kernel_rfl) (by simp) ?_
            refine AllReady.cons rfl (fun K hK => ?_) AllReady.nil
            go_simp
            go_at_call 42
            refine (num1_gm HX.out HG2.out p3 H3.out).mono ?_
            rintro e w3 (⟨rfl, HG3⟩ | ⟨hl, rfl, hd⟩)
            rotate_left
            · have HN : Hid (¬ POk bs) := Lib.hid (HBad.out p3 (by have h1 := H1.out; have h2 := H2.out; have h3 := H3.out; omega) hl.out)
              exact ⟨rfl, msgq_bad HN.out hd⟩
            have cN3 := HG3.out.msg.c13
            clear HG2 cN2
            refine hK _ _ ?_
            clear hK K
            refine wpAny_take (i := 10) (v := ?_) rfl (by kernel_rfl) (by kernel_rfl) (by kernel_rfl) (fun _ _ _ h => h) (Or.inl ⟨by rfl, ?_⟩) ?_
            rotate_left 1
            · intro w; go_simp; try with_reducible rfl
            refine wpAny_take (i := 11) (v := ?_) rfl (by kernel_rfl) (by kernel_rfl) (by kernel_rfl) (fun _ _ _ h => h) (Or.inl ⟨by rfl, ?_⟩) ?_
            rotate_left 1
            · intro w; go_simp; try with_reducible rfl
            refine wpAny_ready (rs := [12]) (by kernel_rfl) (by simp) ?_
            refine AllReady.cons rfl (fun K hK => ?_) AllReady.nil
            go_simp
            refine hK _ _ ?_
            clear hK K
            refine wpAny_ready (rs := [13]) (by kernel_rfl) (by simp) ?_
            refine AllReady.cons rfl (fun K hK => ?_) AllReady.nil
            refine step_app_in rfl (.tmp 70) (.tmp 81) rfl (w.heap.size + 2) iv i (gIn bs) HG3.out.oi hi1000 (by simp [Act.eval, Act.put]) (by have := HG3.out.lt; omega) (IntKind.i8.wrap (zz bs p0)) (IntKind.i8.wrap (zz bs p1)) (IntKind.u8.wrap (zz bs p2)) X0.out X1.out X2.out (by first | rfl | skip) (by simp [Act.eval, Act.put]) ?_
            intro v' w' hO hg hob hex
            obtain ⟨g, cap, rfl⟩ := hex
            obtain ⟨hG', hc', hf'⟩ := HG3.out.inp HX.out.hR HX.out.hb rfl rfl hO hg
            have HG' := Lib.hid hG'
            clear hG' hO hg hob HG3 cN3
            try clear cA
            refine hK _ _ ?_
            clear hK K
            refine wpAny_take (i := 14) (v := ?_) rfl (by kernel_rfl) (by kernel_rfl) (by kernel_rfl) (fun _ _ _ h => h) (Or.inl ⟨by rfl, ?_⟩) ?_
            rotate_left 1
            · intro w; go_simp; try with_reducible rfl
            refine wpAny_ready (rs := [15]) (by kernel_rfl) (by simp) ?_
            refine AllReady.cons rfl (fun K hK => ?_) AllReady.nil
            go_simp
            refine hK _ _ ?_
            clear hK K
            refine wpAny_done (by kernel_rfl) ?_ _
            clear hc' hf'
            go_wp2_with fail
            go_meet
            exact ⟨rfl, _, HFin.out _ _ HG'.out⟩
          · skip
            go_simp
            go_at_call 42
            refine (num1_gm HX.out HG0.out p1 H1.out).mono ?_
            rintro e w1 (⟨rfl, HG1⟩ | ⟨hl, rfl, hd⟩)
            rotate_left
            · have HN : Hid (¬ POk bs) := Lib.hid (HBad.out p1 (by have h1 := H1.out; have h2 := H2.out; have h3 := H3.out; omega) hl.out)
              exact ⟨rfl, msgq_bad HN.out hd⟩
            have cN1 := HG1.out.msg.c13
            clear HG0 cN0
            refine hK _ _ ?_
            clear hK K
            refine wpAny_take (i := 4) (v := ?_) rfl (by kernel_rfl) (by kernel_rfl) (by kernel_rfl) (fun _ _ _ h => h) (Or.inl ⟨by rfl, ?_⟩) ?_
            rotate_left 1
            · intro w; go_simp; try with_reducible rfl
            refine wpAny_ready (rs := [1, 6]) (by kernel_rfl) (by simp) ?_
            refine AllReady.cons rfl (fun K hK => ?_) (AllReady.cons rfl (fun K hK => ?_) AllReady.nil)
            · skip
              go_simp
              refine hK _ _ ?_
              clear hK K
              refine wpAny_ready (rs := [6]) (by kernel_rfl) (by simp) ?_
              refine AllReady.cons rfl (fun K hK => ?_) AllReady.nil
              go_simp
              go_at_call 42
              refine (num1_gm HX.out HG1.out p2 H2.out).mono ?_
              rintro e w2 (⟨rfl, HG2⟩ | ⟨hl, rfl, hd⟩)
              rotate_left
              · have HN : Hid (¬ POk bs) := Lib.hid (HBad.out p2 (by have h1 := H1.out; have h2 := H2.out; have h3 := H3.out; omega) hl.out)
                exact ⟨rfl, msgq_bad HN.out hd⟩
              have cN2 := HG2.out.msg.c13
              clear HG1 cN1
              refine hK _ _ ?_
              clear hK K
              refine wpAny_take (i := 7) (v := ?_) rfl (by kernel_rfl) (by kernel_rfl) (by kernel_rfl) (fun _ _ _ h => h) (Or.inl ⟨by rfl, ?_⟩) ?_
              rotate_left 1
              · intro w; go_simp; try with_reducible rfl
              refine wpAny_ready (rs := [9]) (by kernel_rfl) (by simp) ?_
              refine AllReady.cons rfl (fun K hK => ?_) AllReady.nil
              go_simp
              go_at_call 42
              refine (num1_gm HX.out HG2.out p3 H3.out).mono ?_
              rintro e w3 (⟨rfl, HG3⟩ | ⟨hl, rfl, hd⟩)
              rotate_left
              · have HN : Hid (¬ POk bs) := Lib.hid (HBad.out p3 (by have h1 := H1.out; have h2 := H2.out; have h3 := H3.out; omega) hl.out)
                exact ⟨rfl, msgq_bad HN.out hd⟩
              have cN3 := HG3.out.msg.c13
              clear HG2 cN2
              refine hK _ _ ?_
              clear hK K
              refine wpAny_take (i := 10) (v := ?_) rfl (by kernel_rfl) (by kernel_rfl) (by kernel_rfl) (fun _ _ _ h => h) (Or.inl ⟨by rfl, ?_⟩) ?_
              rotate_left 1
              · intro w; go_simp; try with_reducible rfl
              refine wpAny_take (i := 11) (v := ?_) rfl (by kernel_rfl) (by kernel_rfl) (by kernel_rfl) (fun _ _ _ h => h) (Or.inl ⟨by rfl, ?_⟩) ?_
              rotate_left 1
              · intro w; go_simp; try with_reducible rfl
              refine wpAny_ready (rs := [12]) (by kernel_rfl) (by simp) ?_
              refine AllReady.cons rfl (fun K hK => ?_) AllReady.nil
              go_simp
              refine hK _ _ ?_
              clear hK K
              refine wpAny_ready (rs := [13]) (by kernel_rfl) (by simp) ?_
              refine AllReady.cons rfl (fun K hK => ?_) AllReady.nil
              refine step_app_in rfl (.tmp 70) (.tmp 81) rfl (w.heap.size + 2) iv i (gIn bs) HG3.out.oi hi1000 (by simp [Act.eval, Act.put]) (by have := HG3.out.lt; omega) (IntKind.i8.wrap (zz bs p0)) (IntKind.i8.wrap (zz bs p1)) (IntKind.u8.wrap (zz bs p2)) X0.out X1.out X2.out (by first | rfl | skip) (by simp [Act.eval, Act.put]) ?_
              intro v' w' hO hg hob hex
              obtain ⟨g, cap, rfl⟩ := hex
              obtain ⟨hG', hc', hf'⟩ := HG3.out.inp HX.out.hR HX.out.hb rfl rfl hO hg
              have HG' := Lib.hid hG'
              clear hG' hO hg hob HG3 cN3
              try clear cA
              refine hK _ _ ?_
              clear hK K
              refine wpAny_take (i := 14) (v := ?_) rfl (by kernel_rfl) (by kernel_rfl) (by kernel_rfl) (fun _ _ _ h => h) (Or.inl ⟨by rfl, ?_⟩) ?_
              rotate_left 1
              · intro w; go_simp; try with_reducible rfl
              refine wpAny_ready (rs := [15]) (by kernel_rfl) (by simp) ?_
              refine AllReady.cons rfl (fun K hK => ?_) AllReady.nil
              go_simp
              refine hK _ _ ?_
              clear hK K
              refine wpAny_done (by kernel_rfl) ?_ _
              clear hc' hf'
              go_wp2_with fail
              go_meet
              exact ⟨rfl, _, HFin.out _ _ HG'.out⟩
            · skip
              go_simp
              go_at_call 42
              refine (num1_gm HX.out HG1.out p2 H2.out).mono ?_
              rintro e w2 (⟨rfl, HG2⟩ | ⟨hl, rfl, hd⟩)
              rotate_left
              · have HN : Hid (¬ POk bs) := Lib.hid (HBad.out p2 (by have h1 := H1.out; have h2 := H2.out; have h3 := H3.out; omega) hl.out)
                exact ⟨rfl, msgq_bad HN.out hd⟩
              have cN2 := HG2.out.msg.c13
              clear HG1 cN1
              refine hK _ _ ?_
              clear hK K
              refine wpAny_take (i := 7) (v := ?_) rfl (by kernel_rfl) (by kernel_rfl) (by kernel_rfl) (fun _ _ _ h => h) (Or.inl ⟨by rfl, ?_⟩) ?_
              rotate_left 1
              · intro w; go_simp; try with_reducible rfl
              refine wpAny_ready (rs := [1, 9]) (by kernel_rfl) (by simp) ?_
              refine AllReady.cons rfl (fun K hK => ?_) (AllReady.cons rfl (fun K hK => ?_) AllReady.nil)
              · skip
                go_simp
                refine hK _ _ ?_
                clear hK K
                refine wpAny_ready (rs := [9]) (by kernel_rfl) (by simp) ?_
                refine AllReady.cons rfl (fun K hK => ?_) AllReady.nil
                go_simp
                go_at_call 42
                refine (num1_gm HX.out HG2.out p3 H3.out).mono ?_
                rintro e w3 (⟨rfl, HG3⟩ | ⟨hl, rfl, hd⟩)
                rotate_left
                · have HN : Hid (¬ POk bs) := Lib.hid (HBad.out p3 (by have h1 := H1.out; have h2 := H2.out; have h3 := H3.out; omega) hl.out)
                  exact ⟨rfl, msgq_bad HN.out hd⟩
                have cN3 := HG3.out.msg.c13
                clear HG2 cN2
                refine hK _ _ ?_
                clear hK K
                refine wpAny_take (i := 10) (v := ?_) rfl (by kernel_rfl) (by kernel_rfl) (by kernel_rfl) (fun _ _ _ h => h) (Or.inl ⟨by rfl, ?_⟩) ?_
                rotate_left 1
                · intro w; go_simp; try with_reducible rfl
                refine wpAny_take (i := 11) (v := ?_) rfl (by kernel_rfl) (by kernel_rfl) (by kernel_rfl) (fun _ _ _ h => h) (Or.inl ⟨by rfl, ?_⟩) ?_
                rotate_left 1
                · intro w; go_simp; try with_reducible rfl
                refine wpAny_ready (rs := [12]) (by kernel_rfl) (by simp) ?_
                refine AllReady.cons rfl (fun K hK => ?_) AllReady.nil
                go_simp
                refine hK _ _ ?_
                clear hK K
                refine wpAny_ready (rs := [13]) (by kernel_rfl) (by simp) ?_
                refine AllReady.cons rfl (fun K hK => ?_) AllReady.nil
                refine step_app_in rfl (.tmp 70) (.tmp 81) rfl (w.heap.size + 2) iv i (gIn bs) HG3.out.oi hi1000 (by simp [Act.eval, Act.put]) (by have := HG3.out.lt; omega) (IntKind.i8.wrap (zz bs p0)) (IntKind.i8.wrap (zz bs p1)) (IntKind.u8.wrap (zz bs p2)) X0.out X1.out X2.out (by first | rfl | skip) (by simp [Act.eval, Act.put]) ?_
                intro v' w' hO hg hob hex
                obtain ⟨g, cap, rfl⟩ := hex
                obtain ⟨hG', hc', hf'⟩ := HG3.out.inp HX.out.hR HX.out.hb rfl rfl hO hg
                have HG' := Lib.hid hG'
                clear hG' hO hg hob HG3 cN3
                try clear cA
                refine hK _ _ ?_
                clear hK K
                refine wpAny_take (i := 14) (v := ?_) rfl (by kernel_rfl) (by kernel_rfl) (by kernel_rfl) (fun _ _ _ h => h) (Or.inl ⟨by rfl, ?_⟩) ?_
                rotate_left 1
                · intro w; go_simp; try with_reducible rfl
                refine wpAny_ready (rs := [15]) (by kernel_rfl) (by simp) ?_
                refine AllReady.cons rfl (fun K hK => ?_) AllReady.nil
                go_simp
                refine hK _ _ ?_
                clear hK K
                refine wpAny_done (by kernel_rfl) ?_ _
                clear hc' hf'
                go_wp2_with fail
                go_meet
                exact ⟨rfl, _, HFin.out _ _ HG'.out⟩
              · skip
                go_simp
                go_at_call 42
                refine (num1_gm HX.out HG2.out p3 H3.out).mono ?_
                rintro e w3 (⟨rfl, HG3⟩ | ⟨hl, rfl, hd⟩)
                rotate_left
                · have HN : Hid (¬ POk bs) := Lib.hid (HBad.out p3 (by have h1 := H1.out; have h2 := H2.out; have h3 := H3.out; omega) hl.out)
                  exact ⟨rfl, msgq_bad HN.out hd⟩
                have cN3 := HG3.out.msg.c13
                clear HG2 cN2
                refine hK _ _ ?_
                clear hK K
                refine wpAny_take (i := 10) (v := ?_) rfl (by kernel_rfl) (by kernel_rfl) (by kernel_rfl) (fun _ _ _ h => h) (Or.inl ⟨by rfl, ?_⟩) ?_
                rotate_left 1
                · intro w; go_simp; try with_reducible rfl
                refine wpAny_take (i := 11) (v := ?_) rfl (by kernel_rfl) (by kernel_rfl) (by kernel_rfl) (fun _ _ _ h => h) (Or.inl ⟨by rfl, ?_⟩) ?_
                rotate_left 1
                · intro w; go_simp; try with_reducible rfl
                refine wpAny_ready (rs := [1, 12]) (by kernel_rfl) (by simp) ?_
                refine AllReady.cons rfl (fun K hK => ?_) (AllReady.cons rfl (fun K hK => ?_) AllReady.nil)
                · skip
                  go_simp
                  refine hK _ _ ?_
                  clear hK K
                  refine wpAny_ready (rs := [12]) (by kernel_rfl) (by simp) ?_
                  refine AllReady.cons rfl (fun K hK => ?_) AllReady.nil
                  go_simp
                  refine hK _ _ ?_
                  clear hK K
                  refine wpAny_ready (rs := [13]) (by kernel_rfl) (by simp) ?_
                  refine AllReady.cons rfl (fun K hK => ?_) AllReady.nil
                  refine step_app_in rfl (.tmp 70) (.tmp 81) rfl (w.heap.size + 2) iv i (gIn bs) HG3.out.oi hi1000 (by simp [Act.eval, Act.put]) (by have := HG3.out.lt; omega) (IntKind.i8.wrap (zz bs p0)) (IntKind.i8.wrap (zz bs p1)) (IntKind.u8.wrap (zz bs p2)) X0.out X1.out X2.out (by first | rfl | skip) (by simp [Act.eval, Act.put]) ?_
                  intro v' w' hO hg hob hex
                  obtain ⟨g, cap, rfl⟩ := hex
                  obtain ⟨hG', hc', hf'⟩ := HG3.out.inp HX.out.hR HX.out.hb rfl rfl hO hg
                  have HG' := Lib.hid hG'
                  clear hG' hO hg hob HG3 cN3
                  try clear cA
                  refine hK _ _ ?_
                  clear hK K
                  refine wpAny_take (i := 14) (v := ?_) rfl (by kernel_rfl) (by kernel_rfl) (by kernel_rfl) (fun _ _ _ h => h) (Or.inl ⟨by rfl, ?_⟩) ?_
                  rotate_left 1
                  · intro w; go_simp; try with_reducible rfl
                  refine wpAny_ready (rs := [15]) (by kernel_rfl) (by simp) ?_
                  refine AllReady.cons rfl (fun K hK => ?_) AllReady.nil
                  go_simp
                  refine hK _ _ ?_
                  clear hK K
                  refine wpAny_done (by kernel_rfl) ?_ _
                  clear hc' hf'
                  go_wp2_with fail
                  go_meet
                  exact ⟨rfl, _, HFin.out _ _ HG'.out⟩
                · skip
                  have cA := fun o => (World.cell?_of_block (a := ⟨w.heap.size + 1, 13, none⟩) (Below.heap_alloc w3 o (w.heap.size + 1) HG3.out.lt)).trans cN3
                  go_simp
                  refine hK _ _ ?_
                  clear hK K
                  refine wpAny_ready (rs := [1]) (by kernel_rfl) (by simp) ?_
                  refine AllReady.cons rfl (fun K hK => ?_) AllReady.nil
                  go_simp
                  refine hK _ _ ?_
                  clear hK K
                  refine wpAny_ready (rs := [13]) (by kernel_rfl) (by simp) ?_
                  refine AllReady.cons rfl (fun K hK => ?_) AllReady.nil
                  refine step_app_in rfl (.tmp 70) (.tmp 81) rfl (w.heap.size + 2) iv i (gIn bs) HG3.out.oi hi1000 (by simp [Act.eval, Act.put]) (by have := HG3.out.lt; omega) (IntKind.i8.wrap (zz bs p0)) (IntKind.i8.wrap (zz bs p1)) (IntKind.u8.wrap (zz bs p2)) X0.out X1.out X2.out (by first | rfl | skip) (by simp [Act.eval, Act.put]) ?_
                  intro v' w' hO hg hob hex
                  obtain ⟨g, cap, rfl⟩ := hex
                  obtain ⟨hG', hc', hf'⟩ := HG3.out.inp HX.out.hR HX.out.hb rfl rfl hO hg
                  have HG' := Lib.hid hG'
                  clear hG' hO hg hob HG3 cN3
                  try clear cA
                  refine hK _ _ ?_
                  clear hK K
                  refine wpAny_take (i := 14) (v := ?_) rfl (by kernel_rfl) (by kernel_rfl) (by kernel_rfl) (fun _ _ _ h => h) (Or.inl ⟨by rfl, ?_⟩) ?_
                  rotate_left 1
                  · intro w; go_simp; try with_reducible rfl
                  refine wpAny_ready (rs := [15]) (by kernel_rfl) (by simp) ?_
                  refine AllReady.cons rfl (fun K hK => ?_) AllReady.nil
                  go_simp
                  refine hK _ _ ?_
                  clear hK K
                  refine wpAny_done (by kernel_rfl) ?_ _
                  clear hc' hf'
                  go_wp2_with fail
                  go_meet
                  exact ⟨rfl, _, HFin.out _ _ HG'.out⟩
        case rest =>
          obtain ⟨rfl, iv2, hg⟩ := hcut
          clear HG
          have HG := Lib.hid hg
          clear hg
          go_wp2_with fail
          exact ⟨⟨k, i + 1, iv2, by have := HKI.out; omega, rfl, HG.out⟩, by first | (simp [intOf]; done) | (simp [intOf]; omega)⟩
end Go.Proofs.Ytembppihfcclcaa
