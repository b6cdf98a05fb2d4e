/-
  Roster: Apply, at a join.
-/
import Derived.Test.YthjabcogbjdkiaaI
namespace Go.Proofs.Ythjabcogbjdkiaa
set_option linter.unusedVariables false
open Go.ChangeShapes Go.WideShapes Go.ChangeAt Go.RowKit

theorem take_here {v : Int} {n : Nat} {peer : Int} {P G : Nat → Int} (h : takeR v P G n peer = true) : n < 8 := by
  unfold takeR at h
  simp only [Bool.and_eq_true] at h
  obtain ⟨n', h1, h2, -⟩ := seat_slot h.1.1.1.1
  omega
set_option maxHeartbeats 2000000 in
theorem join_any (v : Int) (n : Nat) (gen peer : Int) (P G : Nat → Int) (hyes : takeR v P G n peer = true) (w : World) :
    Calls Try.prog 14 #[rosV v P G, .agg #[.int .i64 1, .int .i64 (n : Int), .int .i64 gen, .int .i64 peer]] w fun e w' => e = .returned (if G n + 1 = gen then .tuple #[rosV (v + 1) (updI P n peer) (updI G n (G n + 1)), .int .i64 0] else .tuple #[rosV v P G, .int .i64 1]) ∧ Below w.heap.size w w' := by
  have hn := take_here hyes
  unfold rosV
  go_enter Try.func14, Try.ntmps14
  go_wp2_with (refine wpList_load_mid rfl 27 _ rfl w.heap.size 0 rfl (rosL v P G) _ (((rosAt_new v P G 27 w).block (Below.heap_alloc _ _ _ (by simp))).block (Below.heap_alloc _ _ _ (by simp; omega))).range Try.underlying27 rfl (size_27 v P G) ?_)
  have hz1 : (w.alloc (Obj.cells (rosL v P G).toArray 27)).heap.size = w.heap.size + 1 := by simp
  have hr := rosAt_new v P G 27 w
  have hb1 := (Below.refl w.heap.size w).alloc (Nat.le_refl _) (Obj.cells (rosL v P G).toArray 27)
  generalize w.alloc (Obj.cells (rosL v P G).toArray 27) = w1 at hr hz1 hb1 ⊢
  have hz2 : (w1.alloc (Obj.cells #[.int .i64 1, .int .i64 (n : Int), .int .i64 gen, .int .i64 peer] 40)).heap.size = w.heap.size + 2 := by simp; omega
  have hr2 := hr.block (Below.heap_alloc w1 (Obj.cells #[.int .i64 1, .int .i64 (n : Int), .int .i64 gen, .int .i64 peer] 40) w.heap.size (by omega))
  have he := evAt_new 1 n gen peer w1
  rw [hz1] at he
  have hb2 := hb1.alloc (by omega) (Obj.cells #[.int .i64 1, .int .i64 (n : Int), .int .i64 gen, .int .i64 peer] 40)
  generalize w1.alloc (Obj.cells #[.int .i64 1, .int .i64 (n : Int), .int .i64 gen, .int .i64 peer] 40) = w2 at hr2 hz2 hb2 he ⊢
  have hz3 : (w2.alloc (Obj.cells #[.int .i64 0, .int .i64 0, .int .i64 0, .int .i64 0, .int .i64 0, .int .i64 0, .int .i64 0, .int .i64 0, .int .i64 0, .int .i64 0, .int .i64 0, .int .i64 0, .int .i64 0, .int .i64 0, .int .i64 0, .int .i64 0, .int .i64 0] 27)).heap.size = w.heap.size + 3 := by simp; omega
  have hr3 := hr2.block (Below.heap_alloc w2 (Obj.cells #[.int .i64 0, .int .i64 0, .int .i64 0, .int .i64 0, .int .i64 0, .int .i64 0, .int .i64 0, .int .i64 0, .int .i64 0, .int .i64 0, .int .i64 0, .int .i64 0, .int .i64 0, .int .i64 0, .int .i64 0, .int .i64 0, .int .i64 0] 27) w.heap.size (by omega))
  have he3 := he.block (Below.heap_alloc w2 (Obj.cells #[.int .i64 0, .int .i64 0, .int .i64 0, .int .i64 0, .int .i64 0, .int .i64 0, .int .i64 0, .int .i64 0, .int .i64 0, .int .i64 0, .int .i64 0, .int .i64 0, .int .i64 0, .int .i64 0, .int .i64 0, .int .i64 0, .int .i64 0] 27) (w.heap.size + 1) (by omega))
  have hr4 : RosAt (w2.alloc (Obj.cells #[.int .i64 0, .int .i64 0, .int .i64 0, .int .i64 0, .int .i64 0, .int .i64 0, .int .i64 0, .int .i64 0, .int .i64 0, .int .i64 0, .int .i64 0, .int .i64 0, .int .i64 0, .int .i64 0, .int .i64 0, .int .i64 0, .int .i64 0] 27)) w2.heap.size 0 (fun _ => 0) (fun _ => 0) := rosAt_new 0 (fun _ => 0) (fun _ => 0) 27 w2
  rw [hz2] at hr4
  have hb3 := hb2.alloc (by omega) (Obj.cells #[.int .i64 0, .int .i64 0, .int .i64 0, .int .i64 0, .int .i64 0, .int .i64 0, .int .i64 0, .int .i64 0, .int .i64 0, .int .i64 0, .int .i64 0, .int .i64 0, .int .i64 0, .int .i64 0, .int .i64 0, .int .i64 0, .int .i64 0] 27)
  generalize w2.alloc (Obj.cells #[.int .i64 0, .int .i64 0, .int .i64 0, .int .i64 0, .int .i64 0, .int .i64 0, .int .i64 0, .int .i64 0, .int .i64 0, .int .i64 0, .int .i64 0, .int .i64 0, .int .i64 0, .int .i64 0, .int .i64 0, .int .i64 0, .int .i64 0] 27) = w3 at *
  clear hr hr2 he hb1 hb2 hz1 hz2
  generalize hb : w.heap.size = b at *
  have HB0 := Lib.hid hb
  have hS : LvS w b v P G 1 n gen peer w3 := ⟨hr3, he3, hr4, hb3, by omega⟩
  clear hb hb3 hr3 he3 hr4 hz3
  have hnI : (n : Int) < 8 := by omega
  refine (take_yes v peer n P G hyes _).mono ?_
  rintro e w4 ⟨rfl, hb4⟩
  unfold rosV
  have hS4 := hS.below hb4
  have hz4 : RosAt (w4.alloc (Obj.cells #[.int .i64 0, .int .i64 0, .int .i64 0, .int .i64 0, .int .i64 0, .int .i64 0, .int .i64 0, .int .i64 0, .int .i64 0, .int .i64 0, .int .i64 0, .int .i64 0, .int .i64 0, .int .i64 0, .int .i64 0, .int .i64 0, .int .i64 0] 27)) w4.heap.size 0 (fun _ => 0) (fun _ => 0) := rosAt_new 0 (fun _ => 0) (fun _ => 0) 27 w4
  have hst := run_store_ros hz4.there (v + 1) (updI P n peer) (updI G n (G n + 1))
  have hS5 := hS4.below (below_setCells w4.heap.size (Nat.le_refl _) (rosL (v + 1) (updI P n peer) (updI G n (G n + 1))) 0 ((Below.refl _ w4).alloc (Nat.le_refl _) (Obj.cells #[.int .i64 0, .int .i64 0, .int .i64 0, .int .i64 0, .int .i64 0, .int .i64 0, .int .i64 0, .int .i64 0, .int .i64 0, .int .i64 0, .int .i64 0, .int .i64 0, .int .i64 0, .int .i64 0, .int .i64 0, .int .i64 0, .int .i64 0] 27)))
  have hr5 := rosAt_stored hz4.there (v + 1) (updI P n peer) (updI G n (G n + 1))
  clear hS hb4 hS4 hz4
  go_wp2_with fail
  generalize ((w4.alloc (Obj.cells #[.int .i64 0, .int .i64 0, .int .i64 0, .int .i64 0, .int .i64 0, .int .i64 0, .int .i64 0, .int .i64 0, .int .i64 0, .int .i64 0, .int .i64 0, .int .i64 0, .int .i64 0, .int .i64 0, .int .i64 0, .int .i64 0, .int .i64 0] 27)).setCells w4.heap.size 0 (rosL (v + 1) (updI P n peer) (updI G n (G n + 1)))) = w5 at *
  generalize w4.heap.size = t at *
  clear hst
  have k1 := hS5.e.c1
  have k2 := hS5.e.c2
  have kg := hr5.g n hn
  rw [show updI G n (G n + 1) n = G n + 1 from if_pos rfl] at kg
  have HS5 := Lib.hid hS5
  have HR5 := Lib.hid hr5
  clear hS5 hr5
  by_cases hgen : G n + 1 = gen
  · have HGen := Lib.hid hgen
    rw [hgen] at kg
    clear hgen
    go_region
    all_goals
      have hst := run_store_ros (HS5.out.z.block (w' := w5.drew) rfl).there (v + 1) (updI P n peer) (updI G n (G n + 1))
      go_wp2_with (refine wpList_load_mid rfl 27 _ rfl t 0 rfl _ _ (HR5.out.block (w' := w5.drew) rfl).range Try.underlying27 rfl (size_27 _ _ _) ?_)
      refine bodyPost_ret (results_cell rfl _ _ (b + 1 + 1) rfl _ _ _ (rosAt_stored (HS5.out.z.block (w' := w5.drew) rfl).there _ _ _)) rfl ⟨by first | rfl | (rw [if_pos HGen.out]; rfl), ?_⟩
      rw [HB0.out]
      exact below_setCells _ (by omega) _ _ HS5.out.bel.drew
  · have HGen := Lib.hid hgen
    have dg : (G n + 1 != gen) = true := by rw [bne_iff_ne]; exact hgen
    clear hgen
    generalize hgn : G n + 1 = g at kg dg
    have HGN := Lib.hid hgn
    clear hgn
    go_region
    all_goals
      have hst := run_store_ros (HS5.out.z.block (w' := w5.drew) rfl).there v P G
      go_wp2_with (refine wpList_load_mid rfl 27 _ rfl b 0 rfl _ _ (HS5.out.r.block (w' := w5.drew) rfl).range Try.underlying27 rfl (size_27 _ _ _) ?_)
      refine bodyPost_ret (results_cell rfl _ _ (b + 1 + 1) rfl _ _ _ (rosAt_stored (HS5.out.z.block (w' := w5.drew) rfl).there _ _ _)) rfl ⟨by first | rfl | (rw [if_neg HGen.out]; rfl), ?_⟩
      rw [HB0.out]
      exact below_setCells _ (by omega) _ _ HS5.out.bel.drew
end Go.Proofs.Ythjabcogbjdkiaa
