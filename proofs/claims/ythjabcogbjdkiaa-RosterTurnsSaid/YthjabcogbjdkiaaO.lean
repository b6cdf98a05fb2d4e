/-
  Roster: a roster that came in; RosterBack.
-/
import Derived.Test.YthjabcogbjdkiaaM
import Derived.Test.YthjabcogbjdkiaaN
import Derived.ChangeKeysEq
import Derived.Deep.RegionHeld3
namespace Go.Proofs.Ythjabcogbjdkiaa
set_option linter.unusedVariables false
open Go.ChangeShapes Go.WideShapes Go.ChangeAt Go.RowKit

def IsRos (w : World) (x : Value) : Prop := ∃ v P G, x = rosV v P G
theorem open_ros {H : Type} {enc : TypeId × Value → H} {W : World} {b0 : Nat} {x : Value} {d : DataW H} {p : List MemPlace} (hv : Value.okWide Try.prog W .any b0 27 x) (h : DataW.Trod enc Try.prog W 0 (fun _ => true) true 27 x d p) : IsRos W x := by
  obtain ⟨cs, rfl, hsz⟩ := okWide_struct Try.underlying27 hv
  obtain ⟨z, hz, -⟩ := open_plain [.i64, .i64, .i64, .i64, .i64, .i64, .i64, .i64, .i64, .i64, .i64, .i64, .i64, .i64, .i64, .i64, .i64] (hsz.trans (by kernel_rfl)) (by kernel_rfl) h
  refine ⟨z 0, fun n => z (1 + n * 2), fun n => z (1 + n * 2 + 1), ?_⟩
  rw [hz]
  rfl
theorem ros_head (v : Int) (P G : Nat → Int) (h : 0 < (rosL v P G).length) : (rosL v P G)[0] = .int .i64 v := rfl
structure BS (w : World) (t7 t9 t11 : Nat) (v : Int) (P1 G1 PB : Nat → Int) (w' : World) : Prop where
  a : RosAt w' t7 (v + 1) P1 G1
  b : RosAt w' t9 (v + 2) PB G1
  c : RosAt w' t11 (v + 2) PB G1
  bel : Below w.heap.size w w'
theorem BS.below {w : World} {t7 t9 t11 : Nat} {v : Int} {P1 G1 PB : Nat → Int} {w1 w2 : World} (s : BS w t7 t9 t11 v P1 G1 PB w1) (h : Below w1.heap.size w1 w2) : BS w t7 t9 t11 v P1 G1 PB w2 :=
  ⟨s.a.block (h.block _ s.a.lt), s.b.block (h.block _ s.b.lt), s.c.block (h.block _ s.c.lt), s.bel.trans (h.mono s.bel.size)⟩
theorem BS.under {w : World} {t7 t9 t11 t12 : Nat} {v : Int} {P1 G1 PB : Nat → Int} {w1 w2 : World} (s : BS w t7 t9 t11 v P1 G1 PB w1) (l7 : t7 < t12) (l9 : t9 < t12) (l11 : t11 < t12) (l0 : w.heap.size ≤ t12) (h : Below t12 w1 w2) : BS w t7 t9 t11 v P1 G1 PB w2 :=
  ⟨s.a.block (h.block _ l7), s.b.block (h.block _ l9), s.c.block (h.block _ l11), s.bel.trans (h.mono l0)⟩
theorem cells24 : Try.prog.cellsOf 24 = 2 := by kernel_rfl
theorem eqq (P G : Nat → Int) (w : World) : (Op.equalIn 9999 25 (.agg #[.int .i64 (P 0), .int .i64 (G 0), .int .i64 (P 1), .int .i64 (G 1), .int .i64 (P 2), .int .i64 (G 2), .int .i64 (P 3), .int .i64 (G 3), .int .i64 (P 4), .int .i64 (G 4), .int .i64 (P 5), .int .i64 (G 5), .int .i64 (P 6), .int .i64 (G 6), .int .i64 (P 7), .int .i64 (G 7)]) (.agg #[.int .i64 (P 0), .int .i64 (G 0), .int .i64 (P 1), .int .i64 (G 1), .int .i64 (P 2), .int .i64 (G 2), .int .i64 (P 3), .int .i64 (G 3), .int .i64 (P 4), .int .i64 (G 4), .int .i64 (P 5), .int .i64 (G 5), .int .i64 (P 6), .int .i64 (G 6), .int .i64 (P 7), .int .i64 (G 7)])).run Try.prog w = .ok true w := by
  obtain ⟨i, hi⟩ := info_of_underlying Try.underlying24
  rw [run_equalIn_array w 9998 _ _ Try.underlying25 hi, cells24]
  rw [show List.range 8 = [0, 1, 2, 3, 4, 5, 6, 7] from rfl]
  simp only [Op.eqItems]
  go_simp
theorem eq25 (v : Int) (P G : Nat → Int) (w : World) : (Op.equalIn 9999 25 (.agg (List.take 16 (rosL v P G).tail).toArray) (.agg (List.take 16 (rosL v P G).tail).toArray)).run Try.prog w = .ok true w := by
  have e : (List.take 16 (rosL v P G).tail).toArray = #[.int .i64 (P 0), .int .i64 (G 0), .int .i64 (P 1), .int .i64 (G 1), .int .i64 (P 2), .int .i64 (G 2), .int .i64 (P 3), .int .i64 (G 3), .int .i64 (P 4), .int .i64 (G 4), .int .i64 (P 5), .int .i64 (G 5), .int .i64 (P 6), .int .i64 (G 6), .int .i64 (P 7), .int .i64 (G 7)] := rfl
  rw [e]
  exact eqq P G w
theorem updI_updI (f : Nat → Int) (k : Nat) (x y : Int) : updI (updI f k x) k y = updI f k y := by
  funext n; unfold updI; split <;> rfl
set_option maxHeartbeats 2000000 in
theorem law_RosterBack (v0 : Value) (a1 a2 : Int) (w : World) (w0 : IsRos w v0) (w1 : (Lit.int .i64 a1).wf = true) (w2 : (Lit.int .i64 a2).wf = true) :
    Calls Try.prog 5 #[v0, .int .i64 a1, .int .i64 a2] w fun e w' => e = .returned (.bool true) ∧ Below w.heap.size w w' := by
  clear w1 w2
  obtain ⟨v, P, G, rfl⟩ := w0
  unfold rosV
  by_cases h1 : a1 < 0
  · have d1 := decide_eq_true h1
    go_enter Try.func5, Try.ntmps5
    go_wp2_with fail
    refine (told_law _).mono ?_
    rintro e w2 ⟨rfl, hb⟩
    have HB := Lib.hid (((Below.refl w.heap.size w).alloc (Nat.le_refl _) (Obj.cells (rosL v P G).toArray 27)).trans (hb.mono (by simp)))
    clear hb
    go_wp2_with fail
    go_ret
    exact ⟨rfl, HB.out⟩
  have d1 := decide_eq_false h1
  by_cases h2 : 8 ≤ a1
  · have d2 := decide_eq_true h2
    go_enter Try.func5, Try.ntmps5
    go_wp2_with fail
    refine (told_law _).mono ?_
    rintro e w2 ⟨rfl, hb⟩
    have HB := Lib.hid (((Below.refl w.heap.size w).alloc (Nat.le_refl _) (Obj.cells (rosL v P G).toArray 27)).trans (hb.mono (by simp)))
    clear hb
    go_wp2_with fail
    go_ret
    exact ⟨rfl, HB.out⟩
  have d2 := decide_eq_false h2
  obtain ⟨n, rfl⟩ : ∃ n : Nat, a1 = n := ⟨a1.toNat, by omega⟩
  have hn : n < 8 := by omega
  have hnI : (n : Int) < 8 := by omega
  clear h1 h2
  go_enter Try.func5, Try.ntmps5
  go_wp2_with (refine wpList_load_g (by rfl) 27 _ rfl w.heap.size 0 rfl _ _ (rosAt_new v P G 27 w).range Try.underlying27 rfl (size_27 _ _ _) ?_)
  have HR0 := Lib.hid (rosAt_new v P G 27 w)
  have HB := Lib.hid ((Below.refl w.heap.size w).alloc (Nat.le_refl _) (Obj.cells (rosL v P G).toArray 27))
  generalize w.alloc (Obj.cells (rosL v P G).toArray 27) = w1 at *
  cases htk : takeR v P G n a2 with
  | false =>
    refine (take_no v n a2 P G htk _).mono ?_
    rintro e wA ⟨rfl, hbA⟩
    replace HR0 := Lib.hid (HR0.out.block (hbA.block _ HR0.out.lt))
    replace HB := Lib.hid (HB.out.trans (hbA.mono HB.out.size))
    clear hbA
    clear htk
    try unfold rosV
    have hB := HB.out
    have HR0x := HR0.out
    have hz : RosAt (wA.alloc (Obj.cells #[.int .i64 0, .int .i64 0, .int .i64 0, .int .i64 0, .int .i64 0, .int .i64 0, .int .i64 0, .int .i64 0, .int .i64 0, .int .i64 0, .int .i64 0, .int .i64 0, .int .i64 0, .int .i64 0, .int .i64 0, .int .i64 0, .int .i64 0] 27)) wA.heap.size 0 (fun _ => 0) (fun _ => 0) := rosAt_new 0 (fun _ => 0) (fun _ => 0) 27 wA
    have HST := Lib.hid (run_store_ros hz.there (v) (P) (G))
    have hW := below_setCells wA.heap.size (Nat.le_refl _) (rosL (v) (P) (G)) 0 ((Below.refl _ wA).alloc (Nat.le_refl _) (Obj.cells #[.int .i64 0, .int .i64 0, .int .i64 0, .int .i64 0, .int .i64 0, .int .i64 0, .int .i64 0, .int .i64 0, .int .i64 0, .int .i64 0, .int .i64 0, .int .i64 0, .int .i64 0, .int .i64 0, .int .i64 0, .int .i64 0, .int .i64 0] 27))
    replace HR0 := Lib.hid (HR0x.block (hW.block _ HR0x.lt))
    clear HR0x
    have HR7 := Lib.hid (rosAt_stored hz.there (v) (P) (G))
    replace HB := Lib.hid (hB.trans (hW.mono hB.size))
    clear hB hW hz
    go_wp2_with fail
    rw [HST.out]
    clear HST
    generalize ((wA.alloc (Obj.cells #[.int .i64 0, .int .i64 0, .int .i64 0, .int .i64 0, .int .i64 0, .int .i64 0, .int .i64 0, .int .i64 0, .int .i64 0, .int .i64 0, .int .i64 0, .int .i64 0, .int .i64 0, .int .i64 0, .int .i64 0, .int .i64 0, .int .i64 0] 27)).setCells wA.heap.size 0 (rosL (v) (P) (G))) = w7 at *
    generalize wA.heap.size = t7 at *
    clear wA
    go_wp2_with fail
    refine (told_law _).mono ?_
    rintro e wT ⟨rfl, hbA⟩
    replace HR0 := Lib.hid (HR0.out.block (hbA.block _ HR0.out.lt))
    replace HR7 := Lib.hid (HR7.out.block (hbA.block _ HR7.out.lt))
    replace HB := Lib.hid (HB.out.trans (hbA.mono HB.out.size))
    clear hbA
    have q1 := ros_head v P G
    have q2 := eq25 v P G
    go_wp2_with (first | (refine wpList_load_g (by rfl) 27 _ rfl w.heap.size 0 rfl _ _ HR0.out.range Try.underlying27 rfl (size_27 _ _ _) ?_) | (refine wpList_load_g (by rfl) 27 _ rfl t7 0 rfl _ _ HR7.out.range Try.underlying27 rfl (size_27 _ _ _) ?_))
    go_ret
    exact ⟨rfl, HB.out⟩
  | true =>
    have htk' := htk
    unfold takeR at htk'
    simp only [Bool.and_eq_true, decide_eq_true_eq] at htk'
    obtain ⟨⟨⟨⟨hs, h1⟩, h2⟩, -⟩, -⟩ := htk'
    obtain ⟨n', hnn, -, hm, hv0, hv1, -⟩ := seat_slot hs
    have hgb := may_range hm n hn
    clear hs hnn n' hm
    have htm := take_may htk
    have HKt := Lib.hid (fun w => take_yes v a2 n P G htk w)
    clear htk
    obtain ⟨P1, hP1⟩ : ∃ P1, P1 = updI P n a2 := ⟨_, rfl⟩
    obtain ⟨G1, hG1⟩ : ∃ G1, G1 = updI G n (G n + 1) := ⟨_, rfl⟩
    obtain ⟨PB, hPB⟩ : ∃ PB, PB = updI P n (-1) := ⟨_, rfl⟩
    have p1n : P1 n = a2 := by rw [hP1]; exact updI_eq _ _ _
    have g1n : G1 n = G n + 1 := by rw [hG1]; exact updI_eq _ _ _
    have hPB2 : PB = updI P1 n (-1) := by rw [hP1, hPB, updI_updI]
    rw [← hP1, ← hG1] at HKt htm
    have HPB := Lib.hid hPB
    have HG1 := Lib.hid hG1
    clear hP1 hG1 hPB
    refine (HKt.out _).mono ?_
    rintro e wA ⟨rfl, hbA⟩
    replace HR0 := Lib.hid (HR0.out.block (hbA.block _ HR0.out.lt))
    replace HB := Lib.hid (HB.out.trans (hbA.mono HB.out.size))
    clear hbA
    try unfold rosV
    have hB := HB.out
    have HR0x := HR0.out
    have hz : RosAt (wA.alloc (Obj.cells #[.int .i64 0, .int .i64 0, .int .i64 0, .int .i64 0, .int .i64 0, .int .i64 0, .int .i64 0, .int .i64 0, .int .i64 0, .int .i64 0, .int .i64 0, .int .i64 0, .int .i64 0, .int .i64 0, .int .i64 0, .int .i64 0, .int .i64 0] 27)) wA.heap.size 0 (fun _ => 0) (fun _ => 0) := rosAt_new 0 (fun _ => 0) (fun _ => 0) 27 wA
    have HST := Lib.hid (run_store_ros hz.there (v + 1) (P1) (G1))
    have hW := below_setCells wA.heap.size (Nat.le_refl _) (rosL (v + 1) (P1) (G1)) 0 ((Below.refl _ wA).alloc (Nat.le_refl _) (Obj.cells #[.int .i64 0, .int .i64 0, .int .i64 0, .int .i64 0, .int .i64 0, .int .i64 0, .int .i64 0, .int .i64 0, .int .i64 0, .int .i64 0, .int .i64 0, .int .i64 0, .int .i64 0, .int .i64 0, .int .i64 0, .int .i64 0, .int .i64 0] 27))
    replace HR0 := Lib.hid (HR0x.block (hW.block _ HR0x.lt))
    clear HR0x
    have HR7 := Lib.hid (rosAt_stored hz.there (v + 1) (P1) (G1))
    replace HB := Lib.hid (hB.trans (hW.mono hB.size))
    clear hB hW hz
    go_wp2_with fail
    rw [HST.out]
    clear HST
    generalize ((wA.alloc (Obj.cells #[.int .i64 0, .int .i64 0, .int .i64 0, .int .i64 0, .int .i64 0, .int .i64 0, .int .i64 0, .int .i64 0, .int .i64 0, .int .i64 0, .int .i64 0, .int .i64 0, .int .i64 0, .int .i64 0, .int .i64 0, .int .i64 0, .int .i64 0] 27)).setCells wA.heap.size 0 (rosL (v + 1) (P1) (G1))) = w7 at *
    generalize wA.heap.size = t7 at *
    clear wA
    go_wp2_with (first | (refine wpList_load_g (by rfl) 27 _ rfl w.heap.size 0 rfl _ _ HR0.out.range Try.underlying27 rfl (size_27 _ _ _) ?_) | (refine wpList_load_g (by rfl) 27 _ rfl t7 0 rfl _ _ HR7.out.range Try.underlying27 rfl (size_27 _ _ _) ?_))
    cases hg : seatR (v + 1) P1 G1 n true with
    | false =>
      have hv2 : v + 1 = 1073741824 := by
        unfold seatR at hg
        rw [htm, Int.toNat_natCast, p1n, decide_eq_true h1, decide_eq_true (show (0 : Int) ≤ (n : Int) by omega), decide_eq_true hnI] at hg
        by_cases e : v + 1 < 1073741824
        · rw [decide_eq_true e] at hg; cases hg
        · omega
      refine (give_no (v + 1) n P1 G1 hg _).mono ?_
      rintro e wA ⟨rfl, hbA⟩
      replace HR0 := Lib.hid (HR0.out.block (hbA.block _ HR0.out.lt))
      replace HR7 := Lib.hid (HR7.out.block (hbA.block _ HR7.out.lt))
      replace HB := Lib.hid (HB.out.trans (hbA.mono HB.out.size))
      clear hbA
      have HV2 := Lib.hid hv2
      clear hg hv2
      try unfold rosV
      have hB := HB.out
      have HR0x := HR0.out
      have HR7x := HR7.out
      have hz : RosAt (wA.alloc (Obj.cells #[.int .i64 0, .int .i64 0, .int .i64 0, .int .i64 0, .int .i64 0, .int .i64 0, .int .i64 0, .int .i64 0, .int .i64 0, .int .i64 0, .int .i64 0, .int .i64 0, .int .i64 0, .int .i64 0, .int .i64 0, .int .i64 0, .int .i64 0] 27)) wA.heap.size 0 (fun _ => 0) (fun _ => 0) := rosAt_new 0 (fun _ => 0) (fun _ => 0) 27 wA
      have HST := Lib.hid (run_store_ros hz.there (v + 1) (P1) (G1))
      have hW := below_setCells wA.heap.size (Nat.le_refl _) (rosL (v + 1) (P1) (G1)) 0 ((Below.refl _ wA).alloc (Nat.le_refl _) (Obj.cells #[.int .i64 0, .int .i64 0, .int .i64 0, .int .i64 0, .int .i64 0, .int .i64 0, .int .i64 0, .int .i64 0, .int .i64 0, .int .i64 0, .int .i64 0, .int .i64 0, .int .i64 0, .int .i64 0, .int .i64 0, .int .i64 0, .int .i64 0] 27))
      replace HR0 := Lib.hid (HR0x.block (hW.block _ HR0x.lt))
      clear HR0x
      replace HR7 := Lib.hid (HR7x.block (hW.block _ HR7x.lt))
      clear HR7x
      have HR9 := Lib.hid (rosAt_stored hz.there (v + 1) (P1) (G1))
      replace HB := Lib.hid (hB.trans (hW.mono hB.size))
      clear hB hW hz
      go_wp2_with fail
      rw [HST.out]
      clear HST
      generalize ((wA.alloc (Obj.cells #[.int .i64 0, .int .i64 0, .int .i64 0, .int .i64 0, .int .i64 0, .int .i64 0, .int .i64 0, .int .i64 0, .int .i64 0, .int .i64 0, .int .i64 0, .int .i64 0, .int .i64 0, .int .i64 0, .int .i64 0, .int .i64 0, .int .i64 0] 27)).setCells wA.heap.size 0 (rosL (v + 1) (P1) (G1))) = w9 at *
      generalize wA.heap.size = t9 at *
      clear wA
      go_wp2_with fail
      refine (told_law _).mono ?_
      rintro e wT ⟨rfl, hbA⟩
      replace HR0 := Lib.hid (HR0.out.block (hbA.block _ HR0.out.lt))
      replace HR7 := Lib.hid (HR7.out.block (hbA.block _ HR7.out.lt))
      replace HR9 := Lib.hid (HR9.out.block (hbA.block _ HR9.out.lt))
      replace HB := Lib.hid (HB.out.trans (hbA.mono HB.out.size))
      clear hbA
      have c7 := HR7.out.c0
      rw [HV2.out] at c7
      go_wp2_with fail
      go_ret
      exact ⟨rfl, HB.out⟩
    | true =>
      have HKg : Hid (∀ w, Calls Try.prog 9 #[.agg (rosL (v + 1) P1 G1).toArray, .int .i64 (n : Int)] w fun e w' => e = .returned (.tuple #[.agg (rosL (v + 2) PB G1).toArray, .int .i64 0]) ∧ Below w.heap.size w w') := Lib.hid (fun w => by
        rw [hPB2, show v + 2 = v + 1 + 1 by omega]; exact give_yes (v + 1) n P1 G1 hn hg w)
      have HKl : Hid (∀ w, Calls Try.prog 14 #[.agg (rosL (v + 1) P1 G1).toArray, .agg #[.int .i64 2, .int .i64 (n : Int), .int .i64 (G n + 1), .int .i64 a2]] w fun e w' => e = .returned (.tuple #[.agg (rosL (v + 2) PB G1).toArray, .int .i64 0]) ∧ Below w.heap.size w w') := Lib.hid (fun w => by
        rw [hPB2, show v + 2 = v + 1 + 1 by omega]; exact leave_ok (v + 1) n (G n + 1) a2 P1 G1 hg p1n g1n w)
      clear hg hPB2 htm HKt
      refine (HKg.out _).mono ?_
      rintro e wA ⟨rfl, hbA⟩
      replace HR0 := Lib.hid (HR0.out.block (hbA.block _ HR0.out.lt))
      replace HR7 := Lib.hid (HR7.out.block (hbA.block _ HR7.out.lt))
      replace HB := Lib.hid (HB.out.trans (hbA.mono HB.out.size))
      clear hbA
      try unfold rosV
      have hB := HB.out
      have HR0x := HR0.out
      have HR7x := HR7.out
      have hz : RosAt (wA.alloc (Obj.cells #[.int .i64 0, .int .i64 0, .int .i64 0, .int .i64 0, .int .i64 0, .int .i64 0, .int .i64 0, .int .i64 0, .int .i64 0, .int .i64 0, .int .i64 0, .int .i64 0, .int .i64 0, .int .i64 0, .int .i64 0, .int .i64 0, .int .i64 0] 27)) wA.heap.size 0 (fun _ => 0) (fun _ => 0) := rosAt_new 0 (fun _ => 0) (fun _ => 0) 27 wA
      have HST := Lib.hid (run_store_ros hz.there (v + 2) (PB) (G1))
      have hW := below_setCells wA.heap.size (Nat.le_refl _) (rosL (v + 2) (PB) (G1)) 0 ((Below.refl _ wA).alloc (Nat.le_refl _) (Obj.cells #[.int .i64 0, .int .i64 0, .int .i64 0, .int .i64 0, .int .i64 0, .int .i64 0, .int .i64 0, .int .i64 0, .int .i64 0, .int .i64 0, .int .i64 0, .int .i64 0, .int .i64 0, .int .i64 0, .int .i64 0, .int .i64 0, .int .i64 0] 27))
      replace HR0 := Lib.hid (HR0x.block (hW.block _ HR0x.lt))
      clear HR0x
      replace HR7 := Lib.hid (HR7x.block (hW.block _ HR7x.lt))
      clear HR7x
      have HR9 := Lib.hid (rosAt_stored hz.there (v + 2) (PB) (G1))
      replace HB := Lib.hid (hB.trans (hW.mono hB.size))
      clear hB hW hz
      go_wp2_with fail
      rw [HST.out]
      clear HST
      generalize ((wA.alloc (Obj.cells #[.int .i64 0, .int .i64 0, .int .i64 0, .int .i64 0, .int .i64 0, .int .i64 0, .int .i64 0, .int .i64 0, .int .i64 0, .int .i64 0, .int .i64 0, .int .i64 0, .int .i64 0, .int .i64 0, .int .i64 0, .int .i64 0, .int .i64 0] 27)).setCells wA.heap.size 0 (rosL (v + 2) (PB) (G1))) = w9 at *
      generalize wA.heap.size = t9 at *
      clear wA
      have LHR0 := HR0.out.lt
      have LHR7 := HR7.out.lt
      have LHR9 := HR9.out.lt
      have HR0c := HR0
      have hB := HB.out
      have HR0x := HR0.out
      have HR7x := HR7.out
      have HR9x := HR9.out
      have hz : RosAt (w9.alloc (Obj.cells #[.int .i64 0, .int .i64 0, .int .i64 0, .int .i64 0, .int .i64 0, .int .i64 0, .int .i64 0, .int .i64 0, .int .i64 0, .int .i64 0, .int .i64 0, .int .i64 0, .int .i64 0, .int .i64 0, .int .i64 0, .int .i64 0, .int .i64 0] 27)) w9.heap.size 0 (fun _ => 0) (fun _ => 0) := rosAt_new 0 (fun _ => 0) (fun _ => 0) 27 w9
      have HST := Lib.hid (run_store_ros hz.there (v) (P) (G))
      have hW := below_setCells w9.heap.size (Nat.le_refl _) (rosL (v) (P) (G)) 0 ((Below.refl _ w9).alloc (Nat.le_refl _) (Obj.cells #[.int .i64 0, .int .i64 0, .int .i64 0, .int .i64 0, .int .i64 0, .int .i64 0, .int .i64 0, .int .i64 0, .int .i64 0, .int .i64 0, .int .i64 0, .int .i64 0, .int .i64 0, .int .i64 0, .int .i64 0, .int .i64 0, .int .i64 0] 27))
      replace HR0 := Lib.hid (HR0x.block (hW.block _ HR0x.lt))
      clear HR0x
      replace HR7 := Lib.hid (HR7x.block (hW.block _ HR7x.lt))
      clear HR7x
      replace HR9 := Lib.hid (HR9x.block (hW.block _ HR9x.lt))
      clear HR9x
      have HR11 := Lib.hid (rosAt_stored hz.there (v) (P) (G))
      replace HB := Lib.hid (hB.trans (hW.mono hB.size))
      clear hB hW hz
      go_wp2_with (refine wpList_load_g (by rfl) 27 _ rfl w.heap.size 0 rfl _ _ HR0c.out.range Try.underlying27 rfl (size_27 _ _ _) ?_)
      rw [HST.out]
      clear HST
      generalize ((w9.alloc (Obj.cells #[.int .i64 0, .int .i64 0, .int .i64 0, .int .i64 0, .int .i64 0, .int .i64 0, .int .i64 0, .int .i64 0, .int .i64 0, .int .i64 0, .int .i64 0, .int .i64 0, .int .i64 0, .int .i64 0, .int .i64 0, .int .i64 0, .int .i64 0] 27)).setCells w9.heap.size 0 (rosL (v) (P) (G))) = w11 at *
      generalize w9.heap.size = t11 at *
      clear HR0c w9
      have c0 := HR0.out.c0
      have c11 := HR11.out.c0
      have f11 := HR11.out.f0
      have g11 := HR11.out.g n hn
      have fg11 := HR11.out.fg n hn
      have p11 := HR11.out.p n hn
      have fp11 := HR11.out.fp n hn
      have hw2 : wrap64 (v + 2) = v + 2 := by unfold wrap64; omega
      have hwg : wrap64 (G n + 1) = G n + 1 := by unfold wrap64; omega
      have hRW := ((HR11.out.setV (v + 2)).setG n (G n + 1)).setP n (-1)
      rw [← HPB.out, ← HG1.out] at hRW
      have HRW := Lib.hid hRW
      have hbW := (((Below.refl t11 w11).setCell (p := ⟨t11, 0, none⟩) (Nat.le_refl _) (.int .i64 (v + 2))).setCell (p := ⟨t11, 1 + n * 2 + 1, none⟩) (Nat.le_refl _) (.int .i64 (G n + 1))).setCell (p := ⟨t11, 1 + n * 2, none⟩) (Nat.le_refl _) (.int .i64 (-1))
      have HBW := Lib.hid hbW
      clear hRW hbW
      go_wp2_with fail
      replace HR0 := Lib.hid (HR0.out.block (HBW.out.block _ LHR0))
      replace HR7 := Lib.hid (HR7.out.block (HBW.out.block _ LHR7))
      replace HR9 := Lib.hid (HR9.out.block (HBW.out.block _ LHR9))
      replace HB := Lib.hid (HB.out.trans (HBW.out.mono (Nat.le_of_lt LHR0)))
      clear HBW HR11 c0 c11 f11 g11 fg11 p11 fp11
      generalize ((w11.setCell ⟨t11, 0, none⟩ (.int .i64 (v + 2))).setCell ⟨t11, 1 + n * 2 + 1, none⟩ (.int .i64 (G n + 1))).setCell ⟨t11, 1 + n * 2, none⟩ (.int .i64 (-1)) = w12 at *
      have hS : BS w t7 t9 t11 v P1 G1 PB w12.drew := ⟨HR7.out.block rfl, HR9.out.block rfl, HRW.out.block rfl, HB.out.drew⟩
      have hnI2 := hnI
      clear HR7 HR9 HRW HB HR0
      refine wp_region_held_drew (S := BS w t7 t9 t11 v P1 G1 PB) (by kernel_rfl) hS (fun hS0 => ?_)
      refine take_l (i := 0) (v := .agg (rosL (v + 1) P1 G1).toArray) (by rfl) (by kernel_rfl) (by kernel_rfl) (by kernel_rfl) (by exact fun _ _ _ h => h) (yieldsIf_load_mid (by rfl) 27 _ rfl t7 0 rfl _ _ (fun w' hSw => hSw.a.range) Try.underlying27 rfl (size_27 _ _ _)) (by assumption) ?_
      try simp only [Act.put, List.setIfInBounds_toArray, List.set_cons_zero, List.set_cons_succ]
      refine take_l (i := 1) (v := ?_) (by rfl) (by kernel_rfl) (by kernel_rfl) (by kernel_rfl) (by exact fun _ _ _ h => h) (Or.inl ⟨by rfl, ?_⟩) (by assumption) ?_
      rotate_left 1
      · (intro w' hSw; have kg := hSw.a.g n hn; rw [g1n] at kg; clear hSw; go_simp; try with_reducible rfl)
      try simp only [Act.put, List.setIfInBounds_toArray, List.set_cons_zero, List.set_cons_succ]
      refine take_l (i := 2) (v := ?_) (by rfl) (by kernel_rfl) (by kernel_rfl) (by kernel_rfl) (by exact fun _ _ _ h => h) (Or.inl ⟨by rfl, ?_⟩) (by assumption) ?_
      rotate_left 1
      · (intro w' hSw; have kg := hSw.a.g n hn; rw [g1n] at kg; clear hSw; go_simp; try with_reducible rfl)
      try simp only [Act.put, List.setIfInBounds_toArray, List.set_cons_zero, List.set_cons_succ]
      refine take_l (i := 3) (v := ?_) (by rfl) (by kernel_rfl) (by kernel_rfl) (by kernel_rfl) (by exact fun _ _ _ h => h) (Or.inl ⟨by rfl, ?_⟩) (by assumption) ?_
      rotate_left 1
      · (intro w' hSw; have kg := hSw.a.g n hn; rw [g1n] at kg; clear hSw; go_simp; try with_reducible rfl)
      try simp only [Act.put, List.setIfInBounds_toArray, List.set_cons_zero, List.set_cons_succ]
      refine take_l (i := 4) (v := ?_) (by rfl) (by kernel_rfl) (by kernel_rfl) (by kernel_rfl) (by exact fun _ _ _ h => h) (Or.inl ⟨by rfl, ?_⟩) (by assumption) ?_
      rotate_left 1
      · (intro w' hSw; have kg := hSw.a.g n hn; rw [g1n] at kg; clear hSw; go_simp; try with_reducible rfl)
      try simp only [Act.put, List.setIfInBounds_toArray, List.set_cons_zero, List.set_cons_succ]
      refine take_l (i := 5) (v := ?_) (by rfl) (by kernel_rfl) (by kernel_rfl) (by kernel_rfl) (by exact fun _ _ _ h => h) (Or.inl ⟨by rfl, ?_⟩) (by assumption) ?_
      rotate_left 1
      · (intro w' hSw; have kg := hSw.a.g n hn; rw [g1n] at kg; clear hSw; go_simp; try with_reducible rfl)
      try simp only [Act.put, List.setIfInBounds_toArray, List.set_cons_zero, List.set_cons_succ]
      refine take_l (i := 6) (v := ?_) (by rfl) (by kernel_rfl) (by kernel_rfl) (by kernel_rfl) (by exact fun _ _ _ h => h) (Or.inl ⟨by rfl, ?_⟩) (by assumption) ?_
      rotate_left 1
      · (intro w' hSw; have kg := hSw.a.g n hn; rw [g1n] at kg; clear hSw; go_simp; try with_reducible rfl)
      try simp only [Act.put, List.setIfInBounds_toArray, List.set_cons_zero, List.set_cons_succ]
      refine take_l (i := 7) (v := ?_) (by rfl) (by kernel_rfl) (by kernel_rfl) (by kernel_rfl) (by exact fun _ _ _ h => h) (Or.inl ⟨by rfl, ?_⟩) (by assumption) ?_
      rotate_left 1
      · (intro w' hSw; have kg := hSw.a.g n hn; rw [g1n] at kg; clear hSw; go_simp; try with_reducible rfl)
      try simp only [Act.put, List.setIfInBounds_toArray, List.set_cons_zero, List.set_cons_succ]
      refine take_l (i := 8) (v := ?_) (by rfl) (by kernel_rfl) (by kernel_rfl) (by kernel_rfl) (by exact fun _ _ _ h => h) (Or.inl ⟨by rfl, ?_⟩) (by assumption) ?_
      rotate_left 1
      · (intro w' hSw; have kg := hSw.a.g n hn; rw [g1n] at kg; clear hSw; go_simp; try with_reducible rfl)
      try simp only [Act.put, List.setIfInBounds_toArray, List.set_cons_zero, List.set_cons_succ]
      refine wpAnyH_ready (rs := [9, 13]) (by kernel_rfl) (by simp) (AllReadyH.cons rfl (fun K hK => ?_) (AllReadyH.cons rfl (fun K hK => ?_) AllReadyH.nil))
      ·
        go_simp
        refine (HKl.out _).mono ?_
        rintro e wA ⟨rfl, hbA⟩
        have hS1 := hS0.below hbA
        go_wp2_with fail
        refine hK.out _ _ hS1 (fun _ => ?_)
        clear hK K
        try simp only [Act.put, List.setIfInBounds_toArray, List.set_cons_zero, List.set_cons_succ]
        refine take_l (i := 10) (v := ?_) (by rfl) (by kernel_rfl) (by kernel_rfl) (by kernel_rfl) (by exact fun _ _ _ h => h) (Or.inl ⟨by rfl, ?_⟩) (by assumption) ?_
        rotate_left 1
        · (intro w' hSw; have kg := hSw.a.g n hn; rw [g1n] at kg; clear hSw; go_simp; try with_reducible rfl)
        try simp only [Act.put, List.setIfInBounds_toArray, List.set_cons_zero, List.set_cons_succ]
        refine take_l (i := 11) (v := ?_) (by rfl) (by kernel_rfl) (by kernel_rfl) (by kernel_rfl) (by exact fun _ _ _ h => h) (Or.inl ⟨by rfl, ?_⟩) (by assumption) ?_
        rotate_left 1
        · (intro w' hSw; have kg := hSw.a.g n hn; rw [g1n] at kg; clear hSw; go_simp; try with_reducible rfl)
        try simp only [Act.put, List.setIfInBounds_toArray, List.set_cons_zero, List.set_cons_succ]
        refine take_l (i := 12) (v := ?_) (by rfl) (by kernel_rfl) (by kernel_rfl) (by kernel_rfl) (by exact fun _ _ _ h => h) (Or.inl ⟨by rfl, ?_⟩) (by assumption) ?_
        rotate_left 1
        · (intro w' hSw; have kg := hSw.a.g n hn; rw [g1n] at kg; clear hSw; go_simp; try with_reducible rfl)
        try simp only [Act.put, List.setIfInBounds_toArray, List.set_cons_zero, List.set_cons_succ]
        refine wpAnyH_ready (rs := [13]) (by kernel_rfl) (by simp) (AllReadyH.cons rfl (fun K hK => ?_) AllReadyH.nil)
        go_simp
        have hz : RosAt (wA.alloc (Obj.cells #[.int .i64 0, .int .i64 0, .int .i64 0, .int .i64 0, .int .i64 0, .int .i64 0, .int .i64 0, .int .i64 0, .int .i64 0, .int .i64 0, .int .i64 0, .int .i64 0, .int .i64 0, .int .i64 0, .int .i64 0, .int .i64 0, .int .i64 0] 27)) wA.heap.size 0 (fun _ => 0) (fun _ => 0) := rosAt_new 0 (fun _ => 0) (fun _ => 0) 27 wA
        have hS2 := hS1.below ((Below.refl _ wA).alloc (Nat.le_refl _) (Obj.cells #[.int .i64 0, .int .i64 0, .int .i64 0, .int .i64 0, .int .i64 0, .int .i64 0, .int .i64 0, .int .i64 0, .int .i64 0, .int .i64 0, .int .i64 0, .int .i64 0, .int .i64 0, .int .i64 0, .int .i64 0, .int .i64 0, .int .i64 0] 27))
        have hS3 := hS1.below (below_setCells wA.heap.size (Nat.le_refl _) (rosL (v + 2) PB G1) 0 ((Below.refl _ wA).alloc (Nat.le_refl _) (Obj.cells #[.int .i64 0, .int .i64 0, .int .i64 0, .int .i64 0, .int .i64 0, .int .i64 0, .int .i64 0, .int .i64 0, .int .i64 0, .int .i64 0, .int .i64 0, .int .i64 0, .int .i64 0, .int .i64 0, .int .i64 0, .int .i64 0, .int .i64 0] 27)))
        have hr12 := rosAt_stored hz.there (v + 2) PB G1
        refine hK.out _ _ hS2 (fun _ => ?_)
        clear hK K
        try simp only [Act.put, List.setIfInBounds_toArray, List.set_cons_zero, List.set_cons_succ]
        refine wpAnyH_ready (rs := [14]) (by kernel_rfl) (by simp) (AllReadyH.cons rfl (fun K hK => ?_) AllReadyH.nil)
        have hst := run_store_ros hz.there (v + 2) PB G1
        go_simp
        refine hK.out _ _ hS3 (fun _ => ?_)
        clear hK K
        try simp only [Act.put, List.setIfInBounds_toArray, List.set_cons_zero, List.set_cons_succ]
        clear hst hz hS2 hS1 hS0 hS hbA
        generalize ((wA.alloc (Obj.cells #[.int .i64 0, .int .i64 0, .int .i64 0, .int .i64 0, .int .i64 0, .int .i64 0, .int .i64 0, .int .i64 0, .int .i64 0, .int .i64 0, .int .i64 0, .int .i64 0, .int .i64 0, .int .i64 0, .int .i64 0, .int .i64 0, .int .i64 0] 27)).setCells wA.heap.size 0 (rosL (v + 2) PB G1)) = w13 at *
        generalize wA.heap.size = t12 at *
        refine take_l (i := 15) (v := ?_) (by rfl) (by kernel_rfl) (by kernel_rfl) (by kernel_rfl) (by exact fun _ _ _ h => h) (Or.inl ⟨by rfl, ?_⟩) (by assumption) ?_
        rotate_left 1
        · (intro w' hSw; have kg := hSw.a.g n hn; rw [g1n] at kg; clear hSw; go_simp; try with_reducible rfl)
        try simp only [Act.put, List.setIfInBounds_toArray, List.set_cons_zero, List.set_cons_succ]
        refine wpAnyH_done (by kernel_rfl) ?_ _
        have HR9 := Lib.hid hS3.b
        have HR11 := Lib.hid hS3.c
        have HB := Lib.hid hS3.bel
        have HR12 := Lib.hid hr12
        clear hr12
        go_wp2_with fail
        refine (told_law _).mono ?_
        rintro e wT ⟨rfl, hbA⟩
        have HR9' := Lib.hid (HR9.out.block (hbA.block _ HR9.out.lt))
        have HR11' := Lib.hid (HR11.out.block (hbA.block _ HR11.out.lt))
        have HR12' := Lib.hid (HR12.out.block (hbA.block _ HR12.out.lt))
        have HB' := Lib.hid (HB.out.trans (hbA.mono HB.out.size))
        have q1 := ros_head (v + 2) PB G1
        have q2 := eq25 (v + 2) PB G1
        clear hbA
        go_wp2_with (first | (refine wpList_load_g (by rfl) 27 _ rfl t9 0 rfl _ _ HR9'.out.range Try.underlying27 rfl (size_27 _ _ _) ?_) | (refine wpList_load_g (by rfl) 27 _ rfl t11 0 rfl _ _ HR11'.out.range Try.underlying27 rfl (size_27 _ _ _) ?_) | (refine wpList_load_g (by rfl) 27 _ rfl t12 0 rfl _ _ HR12'.out.range Try.underlying27 rfl (size_27 _ _ _) ?_))
        go_ret
        exact ⟨by simp, HB'.out⟩
      ·
        go_simp
        have hz : RosAt (w12.alloc (Obj.cells #[.int .i64 0, .int .i64 0, .int .i64 0, .int .i64 0, .int .i64 0, .int .i64 0, .int .i64 0, .int .i64 0, .int .i64 0, .int .i64 0, .int .i64 0, .int .i64 0, .int .i64 0, .int .i64 0, .int .i64 0, .int .i64 0, .int .i64 0] 27)).drew w12.heap.size 0 (fun _ => 0) (fun _ => 0) := RosAt.block (rosAt_new 0 (fun _ => 0) (fun _ => 0) 27 w12) rfl
        have hBA := ((Below.refl _ w12).alloc (Nat.le_refl _) (Obj.cells #[.int .i64 0, .int .i64 0, .int .i64 0, .int .i64 0, .int .i64 0, .int .i64 0, .int .i64 0, .int .i64 0, .int .i64 0, .int .i64 0, .int .i64 0, .int .i64 0, .int .i64 0, .int .i64 0, .int .i64 0, .int .i64 0, .int .i64 0] 27)).drew
        have hS1 := hS0.below (w2 := (w12.alloc (Obj.cells #[.int .i64 0, .int .i64 0, .int .i64 0, .int .i64 0, .int .i64 0, .int .i64 0, .int .i64 0, .int .i64 0, .int .i64 0, .int .i64 0, .int .i64 0, .int .i64 0, .int .i64 0, .int .i64 0, .int .i64 0, .int .i64 0, .int .i64 0] 27)).drew) ⟨hBA.os, hBA.tape, hBA.output, hBA.size, hBA.block⟩
        have l7 : t7 < w12.heap.size := hS0.a.lt
        have l9 : t9 < w12.heap.size := hS0.b.lt
        have l11 : t11 < w12.heap.size := hS0.c.lt
        have l0 : w.heap.size ≤ w12.heap.size := hS0.bel.size
        refine hK.out _ _ hS1 (fun _ => ?_)
        clear hK K
        try simp only [Act.put, List.setIfInBounds_toArray, List.set_cons_zero, List.set_cons_succ]
        clear hS0 hS hBA
        generalize (w12.alloc (Obj.cells #[.int .i64 0, .int .i64 0, .int .i64 0, .int .i64 0, .int .i64 0, .int .i64 0, .int .i64 0, .int .i64 0, .int .i64 0, .int .i64 0, .int .i64 0, .int .i64 0, .int .i64 0, .int .i64 0, .int .i64 0, .int .i64 0, .int .i64 0] 27)).drew = w13 at *
        generalize w12.heap.size = t12 at *
        refine wpAnyH_ready (rs := [9]) (by kernel_rfl) (by simp) (AllReadyH.cons rfl (fun K hK => ?_) AllReadyH.nil)
        go_simp
        refine (HKl.out _).mono ?_
        rintro e wA ⟨rfl, hbA⟩
        have hS2 := hS1.below hbA
        have hz2 := hz.block (hbA.block _ hz.lt)
        go_wp2_with fail
        refine hK.out _ _ hS2 (fun _ => ?_)
        clear hK K
        try simp only [Act.put, List.setIfInBounds_toArray, List.set_cons_zero, List.set_cons_succ]
        refine take_l (i := 10) (v := ?_) (by rfl) (by kernel_rfl) (by kernel_rfl) (by kernel_rfl) (by exact fun _ _ _ h => h) (Or.inl ⟨by rfl, ?_⟩) (by assumption) ?_
        rotate_left 1
        · (intro w' hSw; have kg := hSw.a.g n hn; rw [g1n] at kg; clear hSw; go_simp; try with_reducible rfl)
        try simp only [Act.put, List.setIfInBounds_toArray, List.set_cons_zero, List.set_cons_succ]
        refine take_l (i := 11) (v := ?_) (by rfl) (by kernel_rfl) (by kernel_rfl) (by kernel_rfl) (by exact fun _ _ _ h => h) (Or.inl ⟨by rfl, ?_⟩) (by assumption) ?_
        rotate_left 1
        · (intro w' hSw; have kg := hSw.a.g n hn; rw [g1n] at kg; clear hSw; go_simp; try with_reducible rfl)
        try simp only [Act.put, List.setIfInBounds_toArray, List.set_cons_zero, List.set_cons_succ]
        refine take_l (i := 12) (v := ?_) (by rfl) (by kernel_rfl) (by kernel_rfl) (by kernel_rfl) (by exact fun _ _ _ h => h) (Or.inl ⟨by rfl, ?_⟩) (by assumption) ?_
        rotate_left 1
        · (intro w' hSw; have kg := hSw.a.g n hn; rw [g1n] at kg; clear hSw; go_simp; try with_reducible rfl)
        try simp only [Act.put, List.setIfInBounds_toArray, List.set_cons_zero, List.set_cons_succ]
        have hst := run_store_ros hz2.there (v + 2) PB G1
        have hr12 := rosAt_stored hz2.there (v + 2) PB G1
        have hS3 := hS2.under l7 l9 l11 l0 (below_setCells t12 (Nat.le_refl _) (rosL (v + 2) PB G1) 0 (Below.refl _ wA))
        refine wpAnyH_ready (rs := [14]) (by kernel_rfl) (by simp) (AllReadyH.cons rfl (fun K hK => ?_) AllReadyH.nil)
        go_simp
        refine hK.out _ _ hS3 (fun _ => ?_)
        clear hK K
        try simp only [Act.put, List.setIfInBounds_toArray, List.set_cons_zero, List.set_cons_succ]
        clear hst hz hz2 hS2 hS1 hbA
        generalize (wA.setCells t12 0 (rosL (v + 2) PB G1)) = w14 at *
        refine take_l (i := 15) (v := ?_) (by rfl) (by kernel_rfl) (by kernel_rfl) (by kernel_rfl) (by exact fun _ _ _ h => h) (Or.inl ⟨by rfl, ?_⟩) (by assumption) ?_
        rotate_left 1
        · (intro w' hSw; have kg := hSw.a.g n hn; rw [g1n] at kg; clear hSw; go_simp; try with_reducible rfl)
        try simp only [Act.put, List.setIfInBounds_toArray, List.set_cons_zero, List.set_cons_succ]
        refine wpAnyH_done (by kernel_rfl) ?_ _
        have HR9 := Lib.hid hS3.b
        have HR11 := Lib.hid hS3.c
        have HB := Lib.hid hS3.bel
        have HR12 := Lib.hid hr12
        clear hr12
        go_wp2_with fail
        refine (told_law _).mono ?_
        rintro e wT ⟨rfl, hbA⟩
        have HR9' := Lib.hid (HR9.out.block (hbA.block _ HR9.out.lt))
        have HR11' := Lib.hid (HR11.out.block (hbA.block _ HR11.out.lt))
        have HR12' := Lib.hid (HR12.out.block (hbA.block _ HR12.out.lt))
        have HB' := Lib.hid (HB.out.trans (hbA.mono HB.out.size))
        have q1 := ros_head (v + 2) PB G1
        have q2 := eq25 (v + 2) PB G1
        clear hbA
        go_wp2_with (first | (refine wpList_load_g (by rfl) 27 _ rfl t9 0 rfl _ _ HR9'.out.range Try.underlying27 rfl (size_27 _ _ _) ?_) | (refine wpList_load_g (by rfl) 27 _ rfl t11 0 rfl _ _ HR11'.out.range Try.underlying27 rfl (size_27 _ _ _) ?_) | (refine wpList_load_g (by rfl) 27 _ rfl t12 0 rfl _ _ HR12'.out.range Try.underlying27 rfl (size_27 _ _ _) ?_))
        go_ret
        exact ⟨by simp, HB'.out⟩
end Go.Proofs.Ythjabcogbjdkiaa
