/-
  Roster: the few examples are told.
-/
import Derived.Test.YthjabcogbjdkiaaK
namespace Go.Proofs.Ythjabcogbjdkiaa
set_option linter.unusedVariables false
open Go.ChangeShapes Go.WideShapes Go.ChangeAt Go.RowKit

set_option maxHeartbeats 1000000 in
theorem told_gen (tP0 tG0 tP1 tG1 tP2 tP3 tG3 : Nat → Int) (q0 : tP1 0 = 3) (q1 : tG1 0 = 1) (q2 : tP2 0 = -1) (k_new : (∀ w, Calls Try.prog 6 #[] w fun e w' => e = .returned (.agg (rosL 0 tP0 tG0).toArray) ∧ Below w.heap.size w w')) (k_take : (∀ w, Calls Try.prog 10 #[(.agg (rosL 0 tP0 tG0).toArray), .int .i64 0, .int .i64 3] w fun e w' => e = .returned (.tuple #[(.agg (rosL 1 tP1 tG1).toArray), .int .i64 0]) ∧ Below w.heap.size w w')) (k_take2 : (∀ w, Calls Try.prog 10 #[(.agg (rosL 1 tP1 tG1).toArray), .int .i64 1, .int .i64 3] w fun e w' => e = .returned (.tuple #[(.agg (rosL 1 tP1 tG1).toArray), .int .i64 1]) ∧ Below w.heap.size w w')) (k_give : (∀ w, Calls Try.prog 9 #[(.agg (rosL 1 tP1 tG1).toArray), .int .i64 0] w fun e w' => e = .returned (.tuple #[(.agg (rosL 2 tP2 tG1).toArray), .int .i64 0]) ∧ Below w.heap.size w w')) (k_join1 : (∀ w, Calls Try.prog 14 #[(.agg (rosL 2 tP2 tG1).toArray), .agg #[.int .i64 1, .int .i64 0, .int .i64 1, .int .i64 3]] w fun e w' => e = .returned (.tuple #[(.agg (rosL 2 tP2 tG1).toArray), .int .i64 1]) ∧ Below w.heap.size w w')) (k_join2 : (∀ w, Calls Try.prog 14 #[(.agg (rosL 2 tP2 tG1).toArray), .agg #[.int .i64 1, .int .i64 0, .int .i64 2, .int .i64 3]] w fun e w' => e = .returned (.tuple #[(.agg (rosL 3 tP3 tG3).toArray), .int .i64 0]) ∧ Below w.heap.size w w')) (k_of3 : (∀ w, Calls Try.prog 7 #[(.agg (rosL 3 tP3 tG3).toArray), .int .i64 3] w fun e w' => e = .returned (.int .i64 0) ∧ Below w.heap.size w w')) (k_of2 : (∀ w, Calls Try.prog 7 #[(.agg (rosL 2 tP2 tG1).toArray), .int .i64 3] w fun e w' => e = .returned (.int .i64 (-1)) ∧ Below w.heap.size w w')) (k_free : (∀ w, Calls Try.prog 8 #[(.agg (rosL 2 tP2 tG1).toArray)] w fun e w' => e = .returned (.int .i64 1) ∧ Below w.heap.size w w')) (k_mask : (∀ w, Calls Try.prog 13 #[(.agg (rosL 3 tP3 tG3).toArray)] w fun e w' => e = .returned (.int .i64 1) ∧ Below w.heap.size w w')) (k_may : (∀ w, Calls Try.prog 11 #[(.agg (rosL 0 tP0 tG0).toArray)] w fun e w' => e = .returned (.bool true) ∧ Below w.heap.size w w')) (w : World) : Calls Try.prog 12 #[] w fun e w' => e = .returned (.bool true) ∧ Below w.heap.size w w' := by
  have Hk_new := Lib.hid k_new
  clear k_new
  have Hk_take := Lib.hid k_take
  clear k_take
  have Hk_take2 := Lib.hid k_take2
  clear k_take2
  have Hk_give := Lib.hid k_give
  clear k_give
  have Hk_join1 := Lib.hid k_join1
  clear k_join1
  have Hk_join2 := Lib.hid k_join2
  clear k_join2
  have Hk_of3 := Lib.hid k_of3
  clear k_of3
  have Hk_of2 := Lib.hid k_of2
  clear k_of2
  have Hk_free := Lib.hid k_free
  clear k_free
  have Hk_mask := Lib.hid k_mask
  clear k_mask
  have Hk_may := Lib.hid k_may
  clear k_may
  go_enter Try.func12, Try.ntmps12
  go_wp2_with fail
  have HB := Lib.hid (Below.refl w.heap.size w)
  refine (Hk_new.out _).mono ?_
  rintro e wA ⟨rfl, hbA⟩
  have hB := HB.out.trans (hbA.mono HB.out.size)
  have hz : RosAt (wA.alloc (Obj.cells #[.int .i64 0, .int .i64 0, .int .i64 0, .int .i64 0, .int .i64 0, .int .i64 0, .int .i64 0, .int .i64 0, .int .i64 0, .int .i64 0, .int .i64 0, .int .i64 0, .int .i64 0, .int .i64 0, .int .i64 0, .int .i64 0, .int .i64 0] 27)) wA.heap.size 0 (fun _ => 0) (fun _ => 0) := rosAt_new 0 (fun _ => 0) (fun _ => 0) 27 wA
  have hst := run_store_ros hz.there 0 tP0 tG0
  have hW := below_setCells wA.heap.size (Nat.le_refl _) (rosL 0 tP0 tG0) 0 ((Below.refl _ wA).alloc (Nat.le_refl _) (Obj.cells #[.int .i64 0, .int .i64 0, .int .i64 0, .int .i64 0, .int .i64 0, .int .i64 0, .int .i64 0, .int .i64 0, .int .i64 0, .int .i64 0, .int .i64 0, .int .i64 0, .int .i64 0, .int .i64 0, .int .i64 0, .int .i64 0, .int .i64 0] 27))
  have HR1 := Lib.hid (rosAt_stored hz.there 0 tP0 tG0)
  replace HB := Lib.hid (hB.trans (hW.mono hB.size))
  have HST := Lib.hid hst
  clear hB hW hz hbA hst
  go_wp2_with fail
  rw [HST.out]
  clear HST
  generalize ((wA.alloc (Obj.cells #[.int .i64 0, .int .i64 0, .int .i64 0, .int .i64 0, .int .i64 0, .int .i64 0, .int .i64 0, .int .i64 0, .int .i64 0, .int .i64 0, .int .i64 0, .int .i64 0, .int .i64 0, .int .i64 0, .int .i64 0, .int .i64 0, .int .i64 0] 27)).setCells wA.heap.size 0 (rosL 0 tP0 tG0)) = w1 at *
  generalize wA.heap.size = t1 at *
  clear wA
  go_wp2_with (refine wpList_load_g (by rfl) 27 _ rfl t1 0 rfl _ _ HR1.out.range Try.underlying27 rfl (size_27 _ _ _) ?_)
  refine (Hk_take.out _).mono ?_
  rintro e wA ⟨rfl, hbA⟩
  have hB := HB.out.trans (hbA.mono HB.out.size)
  have HR1x := HR1.out.block (hbA.block _ HR1.out.lt)
  have hz : RosAt (wA.alloc (Obj.cells #[.int .i64 0, .int .i64 0, .int .i64 0, .int .i64 0, .int .i64 0, .int .i64 0, .int .i64 0, .int .i64 0, .int .i64 0, .int .i64 0, .int .i64 0, .int .i64 0, .int .i64 0, .int .i64 0, .int .i64 0, .int .i64 0, .int .i64 0] 27)) wA.heap.size 0 (fun _ => 0) (fun _ => 0) := rosAt_new 0 (fun _ => 0) (fun _ => 0) 27 wA
  have hst := run_store_ros hz.there 1 tP1 tG1
  have hW := below_setCells wA.heap.size (Nat.le_refl _) (rosL 1 tP1 tG1) 0 ((Below.refl _ wA).alloc (Nat.le_refl _) (Obj.cells #[.int .i64 0, .int .i64 0, .int .i64 0, .int .i64 0, .int .i64 0, .int .i64 0, .int .i64 0, .int .i64 0, .int .i64 0, .int .i64 0, .int .i64 0, .int .i64 0, .int .i64 0, .int .i64 0, .int .i64 0, .int .i64 0, .int .i64 0] 27))
  replace HR1 := Lib.hid (HR1x.block (hW.block _ HR1x.lt))
  clear HR1x
  have HR2 := Lib.hid (rosAt_stored hz.there 1 tP1 tG1)
  replace HB := Lib.hid (hB.trans (hW.mono hB.size))
  have HST := Lib.hid hst
  clear hB hW hz hbA hst
  go_wp2_with fail
  rw [HST.out]
  clear HST
  generalize ((wA.alloc (Obj.cells #[.int .i64 0, .int .i64 0, .int .i64 0, .int .i64 0, .int .i64 0, .int .i64 0, .int .i64 0, .int .i64 0, .int .i64 0, .int .i64 0, .int .i64 0, .int .i64 0, .int .i64 0, .int .i64 0, .int .i64 0, .int .i64 0, .int .i64 0] 27)).setCells wA.heap.size 0 (rosL 1 tP1 tG1)) = w2 at *
  generalize wA.heap.size = t2 at *
  clear wA
  go_wp2_with (first | (refine wpList_load_g (by rfl) 27 _ rfl t1 0 rfl _ _ HR1.out.range Try.underlying27 rfl (size_27 _ _ _) ?_) | (refine wpList_load_g (by rfl) 27 _ rfl t2 0 rfl _ _ HR2.out.range Try.underlying27 rfl (size_27 _ _ _) ?_))
  refine (Hk_take2.out _).mono ?_
  rintro e wA ⟨rfl, hbA⟩
  have hB := HB.out.trans (hbA.mono HB.out.size)
  have HR1x := HR1.out.block (hbA.block _ HR1.out.lt)
  have HR2x := HR2.out.block (hbA.block _ HR2.out.lt)
  have hz : RosAt (wA.alloc (Obj.cells #[.int .i64 0, .int .i64 0, .int .i64 0, .int .i64 0, .int .i64 0, .int .i64 0, .int .i64 0, .int .i64 0, .int .i64 0, .int .i64 0, .int .i64 0, .int .i64 0, .int .i64 0, .int .i64 0, .int .i64 0, .int .i64 0, .int .i64 0] 27)) wA.heap.size 0 (fun _ => 0) (fun _ => 0) := rosAt_new 0 (fun _ => 0) (fun _ => 0) 27 wA
  have hst := run_store_ros hz.there 1 tP1 tG1
  have hW := below_setCells wA.heap.size (Nat.le_refl _) (rosL 1 tP1 tG1) 0 ((Below.refl _ wA).alloc (Nat.le_refl _) (Obj.cells #[.int .i64 0, .int .i64 0, .int .i64 0, .int .i64 0, .int .i64 0, .int .i64 0, .int .i64 0, .int .i64 0, .int .i64 0, .int .i64 0, .int .i64 0, .int .i64 0, .int .i64 0, .int .i64 0, .int .i64 0, .int .i64 0, .int .i64 0] 27))
  replace HR1 := Lib.hid (HR1x.block (hW.block _ HR1x.lt))
  clear HR1x
  replace HR2 := Lib.hid (HR2x.block (hW.block _ HR2x.lt))
  clear HR2x
  have HR4 := Lib.hid (rosAt_stored hz.there 1 tP1 tG1)
  replace HB := Lib.hid (hB.trans (hW.mono hB.size))
  have HST := Lib.hid hst
  clear hB hW hz hbA hst
  go_wp2_with fail
  rw [HST.out]
  clear HST
  generalize ((wA.alloc (Obj.cells #[.int .i64 0, .int .i64 0, .int .i64 0, .int .i64 0, .int .i64 0, .int .i64 0, .int .i64 0, .int .i64 0, .int .i64 0, .int .i64 0, .int .i64 0, .int .i64 0, .int .i64 0, .int .i64 0, .int .i64 0, .int .i64 0, .int .i64 0] 27)).setCells wA.heap.size 0 (rosL 1 tP1 tG1)) = w4 at *
  generalize wA.heap.size = t4 at *
  clear wA
  go_wp2_with (first | (refine wpList_load_g (by rfl) 27 _ rfl t1 0 rfl _ _ HR1.out.range Try.underlying27 rfl (size_27 _ _ _) ?_) | (refine wpList_load_g (by rfl) 27 _ rfl t2 0 rfl _ _ HR2.out.range Try.underlying27 rfl (size_27 _ _ _) ?_) | (refine wpList_load_g (by rfl) 27 _ rfl t4 0 rfl _ _ HR4.out.range Try.underlying27 rfl (size_27 _ _ _) ?_))
  refine (Hk_give.out _).mono ?_
  rintro e wA ⟨rfl, hbA⟩
  have hB := HB.out.trans (hbA.mono HB.out.size)
  have HR1x := HR1.out.block (hbA.block _ HR1.out.lt)
  have HR2x := HR2.out.block (hbA.block _ HR2.out.lt)
  have HR4x := HR4.out.block (hbA.block _ HR4.out.lt)
  have hz : RosAt (wA.alloc (Obj.cells #[.int .i64 0, .int .i64 0, .int .i64 0, .int .i64 0, .int .i64 0, .int .i64 0, .int .i64 0, .int .i64 0, .int .i64 0, .int .i64 0, .int .i64 0, .int .i64 0, .int .i64 0, .int .i64 0, .int .i64 0, .int .i64 0, .int .i64 0] 27)) wA.heap.size 0 (fun _ => 0) (fun _ => 0) := rosAt_new 0 (fun _ => 0) (fun _ => 0) 27 wA
  have hst := run_store_ros hz.there 2 tP2 tG1
  have hW := below_setCells wA.heap.size (Nat.le_refl _) (rosL 2 tP2 tG1) 0 ((Below.refl _ wA).alloc (Nat.le_refl _) (Obj.cells #[.int .i64 0, .int .i64 0, .int .i64 0, .int .i64 0, .int .i64 0, .int .i64 0, .int .i64 0, .int .i64 0, .int .i64 0, .int .i64 0, .int .i64 0, .int .i64 0, .int .i64 0, .int .i64 0, .int .i64 0, .int .i64 0, .int .i64 0] 27))
  replace HR1 := Lib.hid (HR1x.block (hW.block _ HR1x.lt))
  clear HR1x
  replace HR2 := Lib.hid (HR2x.block (hW.block _ HR2x.lt))
  clear HR2x
  replace HR4 := Lib.hid (HR4x.block (hW.block _ HR4x.lt))
  clear HR4x
  have HR6 := Lib.hid (rosAt_stored hz.there 2 tP2 tG1)
  replace HB := Lib.hid (hB.trans (hW.mono hB.size))
  have HST := Lib.hid hst
  clear hB hW hz hbA hst
  go_wp2_with fail
  rw [HST.out]
  clear HST
  generalize ((wA.alloc (Obj.cells #[.int .i64 0, .int .i64 0, .int .i64 0, .int .i64 0, .int .i64 0, .int .i64 0, .int .i64 0, .int .i64 0, .int .i64 0, .int .i64 0, .int .i64 0, .int .i64 0, .int .i64 0, .int .i64 0, .int .i64 0, .int .i64 0, .int .i64 0] 27)).setCells wA.heap.size 0 (rosL 2 tP2 tG1)) = w6 at *
  generalize wA.heap.size = t6 at *
  clear wA
  go_wp2_with (first | (refine wpList_load_g (by rfl) 27 _ rfl t1 0 rfl _ _ HR1.out.range Try.underlying27 rfl (size_27 _ _ _) ?_) | (refine wpList_load_g (by rfl) 27 _ rfl t2 0 rfl _ _ HR2.out.range Try.underlying27 rfl (size_27 _ _ _) ?_) | (refine wpList_load_g (by rfl) 27 _ rfl t4 0 rfl _ _ HR4.out.range Try.underlying27 rfl (size_27 _ _ _) ?_) | (refine wpList_load_g (by rfl) 27 _ rfl t6 0 rfl _ _ HR6.out.range Try.underlying27 rfl (size_27 _ _ _) ?_))
  refine (Hk_join1.out _).mono ?_
  rintro e wA ⟨rfl, hbA⟩
  have hB := HB.out.trans (hbA.mono HB.out.size)
  have HR1x := HR1.out.block (hbA.block _ HR1.out.lt)
  have HR2x := HR2.out.block (hbA.block _ HR2.out.lt)
  have HR4x := HR4.out.block (hbA.block _ HR4.out.lt)
  have HR6x := HR6.out.block (hbA.block _ HR6.out.lt)
  have hz : RosAt (wA.alloc (Obj.cells #[.int .i64 0, .int .i64 0, .int .i64 0, .int .i64 0, .int .i64 0, .int .i64 0, .int .i64 0, .int .i64 0, .int .i64 0, .int .i64 0, .int .i64 0, .int .i64 0, .int .i64 0, .int .i64 0, .int .i64 0, .int .i64 0, .int .i64 0] 27)) wA.heap.size 0 (fun _ => 0) (fun _ => 0) := rosAt_new 0 (fun _ => 0) (fun _ => 0) 27 wA
  have hst := run_store_ros hz.there 2 tP2 tG1
  have hW := below_setCells wA.heap.size (Nat.le_refl _) (rosL 2 tP2 tG1) 0 ((Below.refl _ wA).alloc (Nat.le_refl _) (Obj.cells #[.int .i64 0, .int .i64 0, .int .i64 0, .int .i64 0, .int .i64 0, .int .i64 0, .int .i64 0, .int .i64 0, .int .i64 0, .int .i64 0, .int .i64 0, .int .i64 0, .int .i64 0, .int .i64 0, .int .i64 0, .int .i64 0, .int .i64 0] 27))
  replace HR1 := Lib.hid (HR1x.block (hW.block _ HR1x.lt))
  clear HR1x
  replace HR2 := Lib.hid (HR2x.block (hW.block _ HR2x.lt))
  clear HR2x
  replace HR4 := Lib.hid (HR4x.block (hW.block _ HR4x.lt))
  clear HR4x
  replace HR6 := Lib.hid (HR6x.block (hW.block _ HR6x.lt))
  clear HR6x
  have HR8 := Lib.hid (rosAt_stored hz.there 2 tP2 tG1)
  replace HB := Lib.hid (hB.trans (hW.mono hB.size))
  have HST := Lib.hid hst
  clear hB hW hz hbA hst
  go_wp2_with fail
  rw [HST.out]
  clear HST
  generalize ((wA.alloc (Obj.cells #[.int .i64 0, .int .i64 0, .int .i64 0, .int .i64 0, .int .i64 0, .int .i64 0, .int .i64 0, .int .i64 0, .int .i64 0, .int .i64 0, .int .i64 0, .int .i64 0, .int .i64 0, .int .i64 0, .int .i64 0, .int .i64 0, .int .i64 0] 27)).setCells wA.heap.size 0 (rosL 2 tP2 tG1)) = w8 at *
  generalize wA.heap.size = t8 at *
  clear wA
  go_wp2_with (first | (refine wpList_load_g (by rfl) 27 _ rfl t1 0 rfl _ _ HR1.out.range Try.underlying27 rfl (size_27 _ _ _) ?_) | (refine wpList_load_g (by rfl) 27 _ rfl t2 0 rfl _ _ HR2.out.range Try.underlying27 rfl (size_27 _ _ _) ?_) | (refine wpList_load_g (by rfl) 27 _ rfl t4 0 rfl _ _ HR4.out.range Try.underlying27 rfl (size_27 _ _ _) ?_) | (refine wpList_load_g (by rfl) 27 _ rfl t6 0 rfl _ _ HR6.out.range Try.underlying27 rfl (size_27 _ _ _) ?_) | (refine wpList_load_g (by rfl) 27 _ rfl t8 0 rfl _ _ HR8.out.range Try.underlying27 rfl (size_27 _ _ _) ?_))
  refine (Hk_join2.out _).mono ?_
  rintro e wA ⟨rfl, hbA⟩
  have hB := HB.out.trans (hbA.mono HB.out.size)
  have HR1x := HR1.out.block (hbA.block _ HR1.out.lt)
  have HR2x := HR2.out.block (hbA.block _ HR2.out.lt)
  have HR4x := HR4.out.block (hbA.block _ HR4.out.lt)
  have HR6x := HR6.out.block (hbA.block _ HR6.out.lt)
  have HR8x := HR8.out.block (hbA.block _ HR8.out.lt)
  have hz : RosAt (wA.alloc (Obj.cells #[.int .i64 0, .int .i64 0, .int .i64 0, .int .i64 0, .int .i64 0, .int .i64 0, .int .i64 0, .int .i64 0, .int .i64 0, .int .i64 0, .int .i64 0, .int .i64 0, .int .i64 0, .int .i64 0, .int .i64 0, .int .i64 0, .int .i64 0] 27)) wA.heap.size 0 (fun _ => 0) (fun _ => 0) := rosAt_new 0 (fun _ => 0) (fun _ => 0) 27 wA
  have hst := run_store_ros hz.there 3 tP3 tG3
  have hW := below_setCells wA.heap.size (Nat.le_refl _) (rosL 3 tP3 tG3) 0 ((Below.refl _ wA).alloc (Nat.le_refl _) (Obj.cells #[.int .i64 0, .int .i64 0, .int .i64 0, .int .i64 0, .int .i64 0, .int .i64 0, .int .i64 0, .int .i64 0, .int .i64 0, .int .i64 0, .int .i64 0, .int .i64 0, .int .i64 0, .int .i64 0, .int .i64 0, .int .i64 0, .int .i64 0] 27))
  replace HR1 := Lib.hid (HR1x.block (hW.block _ HR1x.lt))
  clear HR1x
  replace HR2 := Lib.hid (HR2x.block (hW.block _ HR2x.lt))
  clear HR2x
  replace HR4 := Lib.hid (HR4x.block (hW.block _ HR4x.lt))
  clear HR4x
  replace HR6 := Lib.hid (HR6x.block (hW.block _ HR6x.lt))
  clear HR6x
  replace HR8 := Lib.hid (HR8x.block (hW.block _ HR8x.lt))
  clear HR8x
  have HRa := Lib.hid (rosAt_stored hz.there 3 tP3 tG3)
  replace HB := Lib.hid (hB.trans (hW.mono hB.size))
  have HST := Lib.hid hst
  clear hB hW hz hbA hst
  go_wp2_with fail
  rw [HST.out]
  clear HST
  generalize ((wA.alloc (Obj.cells #[.int .i64 0, .int .i64 0, .int .i64 0, .int .i64 0, .int .i64 0, .int .i64 0, .int .i64 0, .int .i64 0, .int .i64 0, .int .i64 0, .int .i64 0, .int .i64 0, .int .i64 0, .int .i64 0, .int .i64 0, .int .i64 0, .int .i64 0] 27)).setCells wA.heap.size 0 (rosL 3 tP3 tG3)) = wa at *
  generalize wA.heap.size = ta at *
  clear wA
  have c2 := HR2.out.c0
  have p2 := HR2.out.p 0 (by decide)
  have g2 := HR2.out.g 0 (by decide)
  simp only [Nat.zero_mul, Nat.add_zero, Nat.reduceAdd] at p2 g2
  have c6 := HR6.out.c0
  have p6 := HR6.out.p 0 (by decide)
  have g6 := HR6.out.g 0 (by decide)
  simp only [Nat.zero_mul, Nat.add_zero, Nat.reduceAdd] at p6 g6
  have ca := HRa.out.c0
  have pa := HRa.out.p 0 (by decide)
  have ga := HRa.out.g 0 (by decide)
  simp only [Nat.zero_mul, Nat.add_zero, Nat.reduceAdd] at pa ga
  rw [q0] at p2
  rw [q1] at g2
  rw [q2] at p6
  go_wp2_with (first | (refine wpList_load_g (by rfl) 27 _ rfl t1 0 rfl _ _ HR1.out.range Try.underlying27 rfl (size_27 _ _ _) ?_) | (refine wpList_load_g (by rfl) 27 _ rfl t2 0 rfl _ _ HR2.out.range Try.underlying27 rfl (size_27 _ _ _) ?_) | (refine wpList_load_g (by rfl) 27 _ rfl t4 0 rfl _ _ HR4.out.range Try.underlying27 rfl (size_27 _ _ _) ?_) | (refine wpList_load_g (by rfl) 27 _ rfl t6 0 rfl _ _ HR6.out.range Try.underlying27 rfl (size_27 _ _ _) ?_) | (refine wpList_load_g (by rfl) 27 _ rfl t8 0 rfl _ _ HR8.out.range Try.underlying27 rfl (size_27 _ _ _) ?_) | (refine wpList_load_g (by rfl) 27 _ rfl ta 0 rfl _ _ HRa.out.range Try.underlying27 rfl (size_27 _ _ _) ?_))
  clear c2 p2 g2 c6 p6 g6 ca pa ga HR2 HR4 HR8
  refine (Hk_of3.out _).mono ?_
  rintro e wB0 ⟨rfl, hbA⟩
  replace HR1 := Lib.hid (HR1.out.block (hbA.block _ HR1.out.lt))
  replace HR6 := Lib.hid (HR6.out.block (hbA.block _ HR6.out.lt))
  replace HRa := Lib.hid (HRa.out.block (hbA.block _ HRa.out.lt))
  replace HB := Lib.hid (HB.out.trans (hbA.mono HB.out.size))
  clear hbA
  go_wp2_with (first | (refine wpList_load_g (by rfl) 27 _ rfl t1 0 rfl _ _ HR1.out.range Try.underlying27 rfl (size_27 _ _ _) ?_) | (refine wpList_load_g (by rfl) 27 _ rfl t6 0 rfl _ _ HR6.out.range Try.underlying27 rfl (size_27 _ _ _) ?_) | (refine wpList_load_g (by rfl) 27 _ rfl ta 0 rfl _ _ HRa.out.range Try.underlying27 rfl (size_27 _ _ _) ?_))
  refine (Hk_of2.out _).mono ?_
  rintro e wB1 ⟨rfl, hbA⟩
  replace HR1 := Lib.hid (HR1.out.block (hbA.block _ HR1.out.lt))
  replace HR6 := Lib.hid (HR6.out.block (hbA.block _ HR6.out.lt))
  replace HRa := Lib.hid (HRa.out.block (hbA.block _ HRa.out.lt))
  replace HB := Lib.hid (HB.out.trans (hbA.mono HB.out.size))
  clear hbA
  go_wp2_with (first | (refine wpList_load_g (by rfl) 27 _ rfl t1 0 rfl _ _ HR1.out.range Try.underlying27 rfl (size_27 _ _ _) ?_) | (refine wpList_load_g (by rfl) 27 _ rfl t6 0 rfl _ _ HR6.out.range Try.underlying27 rfl (size_27 _ _ _) ?_) | (refine wpList_load_g (by rfl) 27 _ rfl ta 0 rfl _ _ HRa.out.range Try.underlying27 rfl (size_27 _ _ _) ?_))
  refine (Hk_free.out _).mono ?_
  rintro e wB2 ⟨rfl, hbA⟩
  replace HR1 := Lib.hid (HR1.out.block (hbA.block _ HR1.out.lt))
  replace HR6 := Lib.hid (HR6.out.block (hbA.block _ HR6.out.lt))
  replace HRa := Lib.hid (HRa.out.block (hbA.block _ HRa.out.lt))
  replace HB := Lib.hid (HB.out.trans (hbA.mono HB.out.size))
  clear hbA
  go_wp2_with (first | (refine wpList_load_g (by rfl) 27 _ rfl t1 0 rfl _ _ HR1.out.range Try.underlying27 rfl (size_27 _ _ _) ?_) | (refine wpList_load_g (by rfl) 27 _ rfl t6 0 rfl _ _ HR6.out.range Try.underlying27 rfl (size_27 _ _ _) ?_) | (refine wpList_load_g (by rfl) 27 _ rfl ta 0 rfl _ _ HRa.out.range Try.underlying27 rfl (size_27 _ _ _) ?_))
  refine (Hk_mask.out _).mono ?_
  rintro e wB3 ⟨rfl, hbA⟩
  replace HR1 := Lib.hid (HR1.out.block (hbA.block _ HR1.out.lt))
  replace HR6 := Lib.hid (HR6.out.block (hbA.block _ HR6.out.lt))
  replace HRa := Lib.hid (HRa.out.block (hbA.block _ HRa.out.lt))
  replace HB := Lib.hid (HB.out.trans (hbA.mono HB.out.size))
  clear hbA
  go_wp2_with (first | (refine wpList_load_g (by rfl) 27 _ rfl t1 0 rfl _ _ HR1.out.range Try.underlying27 rfl (size_27 _ _ _) ?_) | (refine wpList_load_g (by rfl) 27 _ rfl t6 0 rfl _ _ HR6.out.range Try.underlying27 rfl (size_27 _ _ _) ?_) | (refine wpList_load_g (by rfl) 27 _ rfl ta 0 rfl _ _ HRa.out.range Try.underlying27 rfl (size_27 _ _ _) ?_))
  refine (Hk_may.out _).mono ?_
  rintro e wB4 ⟨rfl, hbA⟩
  replace HR1 := Lib.hid (HR1.out.block (hbA.block _ HR1.out.lt))
  replace HR6 := Lib.hid (HR6.out.block (hbA.block _ HR6.out.lt))
  replace HRa := Lib.hid (HRa.out.block (hbA.block _ HRa.out.lt))
  replace HB := Lib.hid (HB.out.trans (hbA.mono HB.out.size))
  clear hbA
  go_wp2_with (first | (refine wpList_load_g (by rfl) 27 _ rfl t1 0 rfl _ _ HR1.out.range Try.underlying27 rfl (size_27 _ _ _) ?_) | (refine wpList_load_g (by rfl) 27 _ rfl t6 0 rfl _ _ HR6.out.range Try.underlying27 rfl (size_27 _ _ _) ?_) | (refine wpList_load_g (by rfl) 27 _ rfl ta 0 rfl _ _ HRa.out.range Try.underlying27 rfl (size_27 _ _ _) ?_))
  go_ret
  exact ⟨by simp, HB.out⟩
theorem told_law (w : World) : Calls Try.prog 12 #[] w fun e w' => e = .returned (.bool true) ∧ Below w.heap.size w w' :=
  told_gen tP0 tG0 tP1 tG1 tP2 tP3 tG3 rfl rfl rfl k_new k_take k_take2 k_give k_join1 k_join2 k_of3 k_of2 k_free k_mask k_may w
end Go.Proofs.Ythjabcogbjdkiaa
