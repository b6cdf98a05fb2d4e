/-
  Entry: EntryEvents: who leaves stands ahead of who joins, each by slots.
-/
import Derived.Test.YtmhgkkfeohaojaaO0
namespace Go.Proofs.Ytmhgkkfeohaojaa
set_option linter.unusedVariables false
open Go.ChangeShapes Go.WideShapes Go.ChangeAt Go.RowKit

def evP (k1 s1 g1 p1 k2 s2 g2 p2 : Int) : Nat → Nat → Int := fun i j => if i = 0 then evF k1 s1 g1 p1 0 j else evF k2 s2 g2 p2 0 j
theorem may_one (k s g p : Int) : mayE 0 1 (evF k s g p) (fun _ => 0) = mayEvB k s g p := by
  have e : inpAll (fun _ => (0 : Int)) 8 = true := by decide
  unfold mayE
  rw [e]
  show (decide ((0 : Int) ≤ 0) && (decide ((0 : Int) < 1048576) && (evsOk (evF k s g p) 1 && true))) = _
  have : evsOk (evF k s g p) 1 = (true && (mayEvB k s g p && true)) := rfl
  rw [this]; simp
theorem may_two (k1 s1 g1 p1 k2 s2 g2 p2 : Int) (h1 : mayEvB k1 s1 g1 p1 = true) (h2 : mayEvB k2 s2 g2 p2 = true) : mayE 0 2 (evP k1 s1 g1 p1 k2 s2 g2 p2) (fun _ => 0) = !wrongEv k1 s1 k2 s2 := by
  have e : inpAll (fun _ => (0 : Int)) 8 = true := by decide
  unfold mayE
  rw [e]
  have : evsOk (evP k1 s1 g1 p1 k2 s2 g2 p2) 2 = ((true && (mayEvB k1 s1 g1 p1 && true)) && (mayEvB k2 s2 g2 p2 && (false || !wrongEv k1 s1 k2 s2))) := rfl
  rw [this, h1, h2]; simp
theorem evsAt_two (k1 s1 g1 p1 k2 s2 g2 p2 : Int) (w : World) : EvsAt (w.alloc (Obj.cells #[.int .i64 k1, .int .i64 s1, .int .i64 g1, .int .i64 p1, .int .i64 k2, .int .i64 s2, .int .i64 g2, .int .i64 p2] 43)) w.heap.size 0 2 (evP k1 s1 g1 p1 k2 s2 g2 p2) := by
  constructor
  all_goals (intro i hi; rcases (by omega : i = 0 ∨ i = 1) with rfl | rfl <;> (rw [World.cell?_alloc_new]; rfl))
theorem evsV_of {w : World} {b n : Nat} {E : Nat → Nat → Int} (h : EvsAt w b 0 n E) (hn : 0 < n) (hm : n ≤ 100) : EvsV w (.slice (some ⟨b, 0, none⟩) n n) n E :=
  ⟨_, _, rfl, Nat.le_refl _, by unfold maxLen; omega, fun _ => ⟨b, 0, rfl, block_of_cell (h.k 0 hn), h⟩⟩
set_option maxRecDepth 100000 in
set_option maxHeartbeats 4000000 in
theorem law_EntryEvents (v0 v1 : Value) (w : World) (w0 : IsEv w v0) (w1 : IsEv w v1) :
    Calls Try.prog 5 #[v0, v1] w fun e w' => e = .returned (.bool true) ∧ Below w.heap.size w w' := by
  obtain ⟨k1, s1, g1, p1, rfl⟩ := w0
  obtain ⟨k2, s2, g2, p2, rfl⟩ := w1
  go_enter Try.func5, Try.ntmps5
  go_wp2_with fail
  have hS : SX w.heap.size w ((w.alloc (Obj.cells #[.int .i64 k1, .int .i64 s1, .int .i64 g1, .int .i64 p1] 43)).alloc (Obj.cells #[.int .i64 k2, .int .i64 s2, .int .i64 g2, .int .i64 p2] 43)).drew ((w.alloc (Obj.cells #[.int .i64 k1, .int .i64 s1, .int .i64 g1, .int .i64 p1] 43)).alloc (Obj.cells #[.int .i64 k2, .int .i64 s2, .int .i64 g2, .int .i64 p2] 43)).drew :=
    ⟨rfl, rfl, by simp, (((Below.refl w.heap.size w).alloc (Nat.le_refl _) _).alloc (by simp) _).drew⟩
  have hT : ∀ j v, #[Value.int .i64 k1, .int .i64 s1, .int .i64 g1, .int .i64 p1][j]? = some v → ((w.alloc (Obj.cells #[.int .i64 k1, .int .i64 s1, .int .i64 g1, .int .i64 p1] 43)).alloc (Obj.cells #[.int .i64 k2, .int .i64 s2, .int .i64 g2, .int .i64 p2] 43)).drew.cell? ⟨w.heap.size, j, none⟩ = some v := fun j v h => by
    have := World.cell?_of_block (a := ⟨w.heap.size, j, none⟩) (Below.heap_alloc (w.alloc (Obj.cells #[.int .i64 k1, .int .i64 s1, .int .i64 g1, .int .i64 p1] 43)) (Obj.cells #[.int .i64 k2, .int .i64 s2, .int .i64 g2, .int .i64 p2] 43) w.heap.size (by simp))
    rw [World.cell?_alloc_new, h] at this
    exact this
  have hU : ∀ j v, #[Value.int .i64 k2, .int .i64 s2, .int .i64 g2, .int .i64 p2][j]? = some v → ((w.alloc (Obj.cells #[.int .i64 k1, .int .i64 s1, .int .i64 g1, .int .i64 p1] 43)).alloc (Obj.cells #[.int .i64 k2, .int .i64 s2, .int .i64 g2, .int .i64 p2] 43)).drew.cell? ⟨w.heap.size + 1, j, none⟩ = some v := fun j v h => by
    have := World.cell?_alloc_new (w.alloc (Obj.cells #[.int .i64 k1, .int .i64 s1, .int .i64 g1, .int .i64 p1] 43)) #[.int .i64 k2, .int .i64 s2, .int .i64 g2, .int .i64 p2] 43 j
    have hz1 : (w.alloc (Obj.cells #[.int .i64 k1, .int .i64 s1, .int .i64 g1, .int .i64 p1] 43)).heap.size = w.heap.size + 1 := by simp
    rw [h, hz1] at this
    exact this
  generalize hw0 : ((w.alloc (Obj.cells #[.int .i64 k1, .int .i64 s1, .int .i64 g1, .int .i64 p1] 43)).alloc (Obj.cells #[.int .i64 k2, .int .i64 s2, .int .i64 g2, .int .i64 p2] 43)).drew = w0 at *
  refine ee_region w.heap.size w _ w0 hw0 k1 s1 g1 p1 k2 s2 g2 p2 _ _ _ _ _ _ _ _ _ _ _ _ _ _ _ _ _ _ _ _ _ _ _ _ _ _ _ _ _ _ _ _ _ _ _ _ _ _ _ _ _ _ _ _ _ _ _ _ _ _ _ _ _ _ _ hS (Lib.hid (hT 0 _ rfl)) (Lib.hid (hT 1 _ rfl)) (Lib.hid (hT 2 _ rfl)) (Lib.hid (hT 3 _ rfl)) (Lib.hid (hU 0 _ rfl)) (Lib.hid (hU 1 _ rfl)) (Lib.hid (hU 2 _ rfl)) (Lib.hid (hU 3 _ rfl)) _ (fun _ _ _ _ _ h => h) ?_
  intro x9 x10 x11 x12 x13 x14 b1 b4 b6 b7 w1 h1 h4 h6 h7 hS1
  have CT0 := Lib.hid (hS1.cellT (hT 0 (.int .i64 k1) rfl))
  have CT1 := Lib.hid (hS1.cellT (hT 1 (.int .i64 s1) rfl))
  have CT2 := Lib.hid (hS1.cellT (hT 2 (.int .i64 g1) rfl))
  have CT3 := Lib.hid (hS1.cellT (hT 3 (.int .i64 p1) rfl))
  have CU0 := Lib.hid (hS1.cellU (hU 0 (.int .i64 k2) rfl))
  have CU1 := Lib.hid (hS1.cellU (hU 1 (.int .i64 s2) rfl))
  have CU2 := Lib.hid (hS1.cellU (hU 2 (.int .i64 g2) rfl))
  have CU3 := Lib.hid (hS1.cellU (hU 3 (.int .i64 p2) rfl))
  have H6 := Lib.hid h6
  have H7 := Lib.hid h7
  have HV1 := Lib.hid (evsV_of h1 (by omega) (by omega))
  have HV4 := Lib.hid (evsV_of h4 (by omega) (by omega))
  have HB := Lib.hid hS1.bel
  have hsz := hS1.sz
  clear hS hT hU hw0 h1 h4 h6 h7 hS1 w0
  go_wp2_with (refine wpList_load_g (by rfl) 28 _ rfl b6 0 rfl _ _ H6.out.range Try.underlying28 rfl (size_ent _ _ _) ?_)
  refine (may_any 0 _ 1 (evF k1 s1 g1 p1) (fun _ => 0) w1 HV1.out).mono ?_
  rintro e w2 ⟨rfl, hb2⟩
  rw [may_one]
  have keep : ∀ (wa wb : World), Below wa.heap.size wa wb → w.heap.size + 2 ≤ wa.heap.size → ∀ o v, wa.cell? ⟨w.heap.size, o, none⟩ = some v → wb.cell? ⟨w.heap.size, o, none⟩ = some v := fun wa wb hb hs o v h => (World.cell?_of_block (hb.block w.heap.size (by omega))).trans h
  have keep1 : ∀ (wa wb : World), Below wa.heap.size wa wb → w.heap.size + 2 ≤ wa.heap.size → ∀ o v, wa.cell? ⟨w.heap.size + 1, o, none⟩ = some v → wb.cell? ⟨w.heap.size + 1, o, none⟩ = some v := fun wa wb hb hs o v h => (World.cell?_of_block (hb.block (w.heap.size + 1) (by omega))).trans h
  have KA := Lib.hid (keep w1 w2 hb2 hsz)
  have KB := Lib.hid (keep1 w1 w2 hb2 hsz)
  replace CT0 := Lib.hid (KA.out _ _ CT0.out)
  replace CT1 := Lib.hid (KA.out _ _ CT1.out)
  replace CT2 := Lib.hid (KA.out _ _ CT2.out)
  replace CT3 := Lib.hid (KA.out _ _ CT3.out)
  replace CU0 := Lib.hid (KB.out _ _ CU0.out)
  replace CU1 := Lib.hid (KB.out _ _ CU1.out)
  replace CU2 := Lib.hid (KB.out _ _ CU2.out)
  replace CU3 := Lib.hid (KB.out _ _ CU3.out)
  replace HB := Lib.hid (HB.out.trans (hb2.mono HB.out.size))
  replace H7 := Lib.hid (H7.out.block (hb2.block _ H7.out.lt))
  replace HV4 := Lib.hid (HV4.out.below hb2 (Nat.le_refl _))
  have hsz2 := Nat.le_trans hsz hb2.size
  clear hb2 KA KB H6 HV1
  rcases hm1 : mayEvB k1 s1 g1 p1 with _ | _
  · clear keep keep1
    go_wp2_with fail
    refine (told_law _).mono ?_
    rintro e w3 ⟨rfl, hb3⟩
    replace HB := Lib.hid (HB.out.trans (hb3.mono HB.out.size))
    clear hb3
    go_wp2_with fail
    go_ret
    exact ⟨rfl, HB.out⟩
  have HK := Lib.hid keep
  have HK1 := Lib.hid keep1
  clear keep keep1
  go_wp2_with (refine wpList_load_g (by rfl) 28 _ rfl b7 0 rfl _ _ H7.out.range Try.underlying28 rfl (size_ent _ _ _) ?_)
  refine (may_any 0 _ 1 (evF k2 s2 g2 p2) (fun _ => 0) w2 HV4.out).mono ?_
  rintro e w3 ⟨rfl, hb3⟩
  rw [may_one]
  have KA := Lib.hid (HK.out w2 w3 hb3 hsz2)
  have KB := Lib.hid (HK1.out w2 w3 hb3 hsz2)
  replace CT0 := Lib.hid (KA.out _ _ CT0.out)
  replace CT1 := Lib.hid (KA.out _ _ CT1.out)
  replace CT2 := Lib.hid (KA.out _ _ CT2.out)
  replace CT3 := Lib.hid (KA.out _ _ CT3.out)
  replace CU0 := Lib.hid (KB.out _ _ CU0.out)
  replace CU1 := Lib.hid (KB.out _ _ CU1.out)
  replace CU2 := Lib.hid (KB.out _ _ CU2.out)
  replace CU3 := Lib.hid (KB.out _ _ CU3.out)
  replace HB := Lib.hid (HB.out.trans (hb3.mono HB.out.size))
  have hsz3 := Nat.le_trans hsz2 hb3.size
  clear hb3 KA KB H7 HV4 HK HK1
  rcases hm2 : mayEvB k2 s2 g2 p2 with _ | _
  · go_wp2_with fail
    refine (told_law _).mono ?_
    rintro e w4 ⟨rfl, hb4⟩
    replace HB := Lib.hid (HB.out.trans (hb4.mono HB.out.size))
    clear hb4
    go_wp2_with fail
    go_ret
    exact ⟨rfl, HB.out⟩
  have hmay := may_two k1 s1 g1 p1 k2 s2 g2 p2 hm1 hm2
  have hk1 := ((mayEv_iff _ _ _ _).1 hm1).1
  have hk2 := ((mayEv_iff _ _ _ _).1 hm2).1
  have ct0 := CT0.out
  have ct1 := CT1.out
  have ct2 := CT2.out
  have ct3 := CT3.out
  have cu0 := CU0.out
  have cu1 := CU1.out
  have cu2 := CU2.out
  have cu3 := CU3.out
  have hz := zeroEnt
  have e8 := evsAt_two k1 s1 g1 p1 k2 s2 g2 p2 w3
  have b8 := (Below.refl w3.heap.size w3).alloc (Nat.le_refl _) (Obj.cells #[.int .i64 k1, .int .i64 s1, .int .i64 g1, .int .i64 p1, .int .i64 k2, .int .i64 s2, .int .i64 g2, .int .i64 p2] 43)
  have st := store_new 0 (.slice (some ⟨w3.heap.size, 0, none⟩) 2 2) (fun _ => 0) (entL_one _ _ _ _ _) (w3.alloc (Obj.cells #[.int .i64 k1, .int .i64 s1, .int .i64 g1, .int .i64 p1, .int .i64 k2, .int .i64 s2, .int .i64 g2, .int .i64 p2] 43)) (w3.heap.size + 1) (by simp)
  have kT : ∀ o v, w3.cell? ⟨w.heap.size, o, none⟩ = some v → ((w3.alloc (Obj.cells #[.int .i64 k1, .int .i64 s1, .int .i64 g1, .int .i64 p1, .int .i64 k2, .int .i64 s2, .int .i64 g2, .int .i64 p2] 43)).alloc (Obj.cells (entL 0 (.slice (some ⟨w3.heap.size, 0, none⟩) 2 2) (fun _ => 0)).toArray 28)).cell? ⟨w.heap.size, o, none⟩ = some v := fun o v h =>
    (World.cell?_of_block (Below.heap_alloc _ _ w.heap.size (by simp; omega))).trans ((World.cell?_of_block (Below.heap_alloc w3 _ w.heap.size (by omega))).trans h)
  have kU : ∀ o v, w3.cell? ⟨w.heap.size + 1, o, none⟩ = some v → ((w3.alloc (Obj.cells #[.int .i64 k1, .int .i64 s1, .int .i64 g1, .int .i64 p1, .int .i64 k2, .int .i64 s2, .int .i64 g2, .int .i64 p2] 43)).alloc (Obj.cells (entL 0 (.slice (some ⟨w3.heap.size, 0, none⟩) 2 2) (fun _ => 0)).toArray 28)).cell? ⟨w.heap.size + 1, o, none⟩ = some v := fun o v h =>
    (World.cell?_of_block (Below.heap_alloc _ _ (w.heap.size + 1) (by simp; omega))).trans ((World.cell?_of_block (Below.heap_alloc w3 _ (w.heap.size + 1) (by omega))).trans h)
  have t0 := kT _ _ ct0
  have t1 := kT _ _ ct1
  have u0 := kU _ _ cu0
  have u1 := kU _ _ cu1
  have hX := entAt_new 0 (.slice (some ⟨w3.heap.size, 0, none⟩) 2 2) (fun _ => 0) 28 (w3.alloc (Obj.cells #[.int .i64 k1, .int .i64 s1, .int .i64 g1, .int .i64 p1, .int .i64 k2, .int .i64 s2, .int .i64 g2, .int .i64 p2] 43))
  have hz1 : (w3.alloc (Obj.cells #[.int .i64 k1, .int .i64 s1, .int .i64 g1, .int .i64 p1, .int .i64 k2, .int .i64 s2, .int .i64 g2, .int .i64 p2] 43)).heap.size = w3.heap.size + 1 := by simp
  have b9 := (Below.refl (w3.heap.size + 1) (w3.alloc (Obj.cells #[.int .i64 k1, .int .i64 s1, .int .i64 g1, .int .i64 p1, .int .i64 k2, .int .i64 s2, .int .i64 g2, .int .i64 p2] 43))).alloc (by omega) (Obj.cells (entL 0 (.slice (some ⟨w3.heap.size, 0, none⟩) 2 2) (fun _ => 0)).toArray 28)
  have hEX := e8.block (b9.block w3.heap.size (by omega))
  rw [hz1] at hX
  have HX := Lib.hid hX
  have HVX := Lib.hid (evsV_of hEX (by omega) (by omega))
  replace HB := Lib.hid ((HB.out.trans (b8.mono HB.out.size)).trans (b9.mono (by have := HB.out.size; omega)))
  clear kT kU hX e8 b8 b9 hEX hm1 hm2
  have HMay := Lib.hid hmay
  clear hmay
  clear CT0 CT1 CT2 CT3 CU0 CU1 CU2 CU3
  go_upto_region 5 with (refine wpList_build_ev _ _ _ (by rfl) _ rfl rfl ?_)
  clear hz st hz1 ct0 ct1 ct2 ct3 cu0 cu1 cu2 cu3
  generalize (w3.alloc (Obj.cells #[.int .i64 k1, .int .i64 s1, .int .i64 g1, .int .i64 p1, .int .i64 k2, .int .i64 s2, .int .i64 g2, .int .i64 p2] 43)).alloc (Obj.cells (entL 0 (.slice (some ⟨w3.heap.size, 0, none⟩) 2 2) (fun _ => 0)).toArray 28) = w5 at *
  generalize hX1 : w3.heap.size + 1 = X at *
  generalize evP k1 s1 g1 p1 k2 s2 g2 p2 = EP at *
  have HMay' := HMay.out
  unfold wrongEv at HMay'
  clear HMay
  rcases hk1 with rfl | rfl <;> rcases hk2 with rfl | rfl
  · by_cases hlt : s1 < s2
    · have HM : Hid (mayE 0 2 EP (fun _ => 0) = true) := Lib.hid (by rw [HMay']; simp; omega)
      clear HMay'
      go_wp2_with fail
      refine (told_law _).mono ?_
      rintro e w6 ⟨rfl, hb6⟩
      replace HB := Lib.hid (HB.out.trans (hb6.mono HB.out.size))
      replace HX := Lib.hid (HX.out.block (hb6.block _ HX.out.lt))
      replace HVX := Lib.hid (HVX.out.below hb6 (Nat.le_refl _))
      clear hb6
      go_wp2_with (refine wpList_load_g (by rfl) 28 _ rfl X 0 rfl _ _ HX.out.range Try.underlying28 rfl (size_ent _ _ _) ?_)
      refine (may_any 0 _ 2 (EP) (fun _ => 0) w6 HVX.out).mono ?_
      rintro e w7 ⟨rfl, hb7⟩
      replace HB := Lib.hid (HB.out.trans (hb7.mono HB.out.size))
      clear hb7 HX HVX
      rw [HM.out]
      go_wp2_with fail
      go_ret
      exact ⟨by simp, HB.out⟩
    · have HM : Hid (mayE 0 2 EP (fun _ => 0) = false) := Lib.hid (by rw [HMay']; simp; omega)
      clear HMay'
      go_wp2_with fail
      refine (told_law _).mono ?_
      rintro e w6 ⟨rfl, hb6⟩
      replace HB := Lib.hid (HB.out.trans (hb6.mono HB.out.size))
      replace HX := Lib.hid (HX.out.block (hb6.block _ HX.out.lt))
      replace HVX := Lib.hid (HVX.out.below hb6 (Nat.le_refl _))
      clear hb6
      go_wp2_with (refine wpList_load_g (by rfl) 28 _ rfl X 0 rfl _ _ HX.out.range Try.underlying28 rfl (size_ent _ _ _) ?_)
      refine (may_any 0 _ 2 (EP) (fun _ => 0) w6 HVX.out).mono ?_
      rintro e w7 ⟨rfl, hb7⟩
      replace HB := Lib.hid (HB.out.trans (hb7.mono HB.out.size))
      clear hb7 HX HVX
      rw [HM.out]
      go_wp2_with fail
      go_ret
      exact ⟨by simp, HB.out⟩
  · have HM : Hid (mayE 0 2 EP (fun _ => 0) = false) := Lib.hid (by rw [HMay']; simp)
    clear HMay'
    go_wp2_with fail
    refine (told_law _).mono ?_
    rintro e w6 ⟨rfl, hb6⟩
    replace HB := Lib.hid (HB.out.trans (hb6.mono HB.out.size))
    replace HX := Lib.hid (HX.out.block (hb6.block _ HX.out.lt))
    replace HVX := Lib.hid (HVX.out.below hb6 (Nat.le_refl _))
    clear hb6
    go_wp2_with (refine wpList_load_g (by rfl) 28 _ rfl X 0 rfl _ _ HX.out.range Try.underlying28 rfl (size_ent _ _ _) ?_)
    refine (may_any 0 _ 2 (EP) (fun _ => 0) w6 HVX.out).mono ?_
    rintro e w7 ⟨rfl, hb7⟩
    replace HB := Lib.hid (HB.out.trans (hb7.mono HB.out.size))
    clear hb7 HX HVX
    rw [HM.out]
    go_wp2_with fail
    go_ret
    exact ⟨by simp, HB.out⟩
  · have HM : Hid (mayE 0 2 EP (fun _ => 0) = true) := Lib.hid (by rw [HMay']; simp)
    clear HMay'
    go_wp2_with fail
    refine (told_law _).mono ?_
    rintro e w6 ⟨rfl, hb6⟩
    replace HB := Lib.hid (HB.out.trans (hb6.mono HB.out.size))
    replace HX := Lib.hid (HX.out.block (hb6.block _ HX.out.lt))
    replace HVX := Lib.hid (HVX.out.below hb6 (Nat.le_refl _))
    clear hb6
    go_wp2_with (refine wpList_load_g (by rfl) 28 _ rfl X 0 rfl _ _ HX.out.range Try.underlying28 rfl (size_ent _ _ _) ?_)
    refine (may_any 0 _ 2 (EP) (fun _ => 0) w6 HVX.out).mono ?_
    rintro e w7 ⟨rfl, hb7⟩
    replace HB := Lib.hid (HB.out.trans (hb7.mono HB.out.size))
    clear hb7 HX HVX
    rw [HM.out]
    go_wp2_with fail
    go_ret
    exact ⟨by simp, HB.out⟩
  · by_cases hlt : s1 < s2
    · have HM : Hid (mayE 0 2 EP (fun _ => 0) = true) := Lib.hid (by rw [HMay']; simp; omega)
      clear HMay'
      go_wp2_with fail
      refine (told_law _).mono ?_
      rintro e w6 ⟨rfl, hb6⟩
      replace HB := Lib.hid (HB.out.trans (hb6.mono HB.out.size))
      replace HX := Lib.hid (HX.out.block (hb6.block _ HX.out.lt))
      replace HVX := Lib.hid (HVX.out.below hb6 (Nat.le_refl _))
      clear hb6
      go_wp2_with (refine wpList_load_g (by rfl) 28 _ rfl X 0 rfl _ _ HX.out.range Try.underlying28 rfl (size_ent _ _ _) ?_)
      refine (may_any 0 _ 2 (EP) (fun _ => 0) w6 HVX.out).mono ?_
      rintro e w7 ⟨rfl, hb7⟩
      replace HB := Lib.hid (HB.out.trans (hb7.mono HB.out.size))
      clear hb7 HX HVX
      rw [HM.out]
      go_wp2_with fail
      go_ret
      exact ⟨by simp, HB.out⟩
    · have HM : Hid (mayE 0 2 EP (fun _ => 0) = false) := Lib.hid (by rw [HMay']; simp; omega)
      clear HMay'
      go_wp2_with fail
      refine (told_law _).mono ?_
      rintro e w6 ⟨rfl, hb6⟩
      replace HB := Lib.hid (HB.out.trans (hb6.mono HB.out.size))
      replace HX := Lib.hid (HX.out.block (hb6.block _ HX.out.lt))
      replace HVX := Lib.hid (HVX.out.below hb6 (Nat.le_refl _))
      clear hb6
      go_wp2_with (refine wpList_load_g (by rfl) 28 _ rfl X 0 rfl _ _ HX.out.range Try.underlying28 rfl (size_ent _ _ _) ?_)
      refine (may_any 0 _ 2 (EP) (fun _ => 0) w6 HVX.out).mono ?_
      rintro e w7 ⟨rfl, hb7⟩
      replace HB := Lib.hid (HB.out.trans (hb7.mono HB.out.size))
      clear hb7 HX HVX
      rw [HM.out]
      go_wp2_with fail
      go_ret
      exact ⟨by simp, HB.out⟩
end Go.Proofs.Ytmhgkkfeohaojaa
