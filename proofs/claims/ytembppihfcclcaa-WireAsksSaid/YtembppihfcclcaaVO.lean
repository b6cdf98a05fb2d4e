/-
  Wire: the reference's read: data, inputs.
-/
import Derived.Test.YtembppihfcclcaaVN
import Derived.Test.YtembppihfcclcaaG20x
import Derived.Deep.DeepCutAuto
namespace Go.Proofs.Ytembppihfcclcaa
set_option linter.unusedVariables false
open Go.ChangeShapes Go.WideShapes Go.ChangeAt Go.RowKit

set_option linter.unusedSimpArgs false
set_option maxRecDepth 100000 in
set_option maxHeartbeats 8000000 in
theorem readData_any (bs : List Int) (R : Nat) (F : Nat → Int) (ia la da : Option Addr) (ni ic nl lc nd dc : Nat) (l : List Int) (bad : Bool) (w : World) (hr : RG w R l bad) (ht : TrkM bs (gQd bs) l bad) (hh : bad = false → hasB (gK bs) 10 = true) (hby : ByteL bs) :
    Calls Try.prog 47 #[.agg (msgL F (.slice ia ni ic) (.slice la nl lc) (.slice da nd dc)).toArray, .pointer (some ⟨R, 0, none⟩), .int .u8 (ltr 10 : Nat)] w fun e w' => ∃ a n c d l' bad', e = .returned (.agg (msgL F (.slice ia ni ic) (.slice la nl lc) (.slice a n c)).toArray) ∧ RG w' R l' bad' ∧ TrkM bs (gEnd bs) l' bad' ∧ BytesN w' w.heap.size (.slice a n c) d ∧ (bad' = false → bad = false ∧ d = gDt bs) ∧ Rd R w w' := by
  have HQ0 := Lib.hid (rq_start w R F (.slice ia ni ic) (.slice la nl lc) (.slice da nd dc))
  have hR := hr.lt
  have HRG := Lib.hid ((hr.block (Below.heap_alloc w (Obj.cells (msgL F (.slice ia ni ic) (.slice la nl lc) (.slice da nd dc)).toArray 30) R hr.lt)).block (Below.heap_alloc _ (Obj.cells #[.int .i64 0, .int .i64 0, .int .u16 0, .int .u16 0, .int .u32 0, .int .i64 0, .int .i64 0, .int .i64 0, .int .i64 0, .int .i64 0, .int .i64 0, .int .u32 0, .int .u64 0, .slice none 0 0, .slice none 0 0, .slice none 0 0] 30) R (by simp; omega)))
  have HT := Lib.hid ht
  have HH := Lib.hid hh
  clear hr ht hh
  have HBY := Lib.hid hby
  clear hby
  have hl : ((ltr 10 : Nat) : Int) = 100 := rfl
  rw [hl]
  clear hl
  go_enter Try.func47, Try.ntmps47
  go_wp2_with fail
  generalize (w.alloc (Obj.cells (msgL F (.slice ia ni ic) (.slice la nl lc) (.slice da nd dc)).toArray 30)).alloc (Obj.cells #[.int .i64 0, .int .i64 0, .int .u16 0, .int .u16 0, .int .u32 0, .int .i64 0, .int .i64 0, .int .i64 0, .int .i64 0, .int .i64 0, .int .i64 0, .int .u32 0, .int .u64 0, .slice none 0 0, .slice none 0 0, .slice none 0 0] 30) = w1 at *
  have HQt : Hid (bad = false → gQt bs = gQd bs + 1) := Lib.hid (fun h => by unfold gQt; rw [HH.out h]; rfl)
  have HNd : Hid (bad = false → gNd bs = (leV bs (gQd bs) 1).toNat) := Lib.hid (fun h => by unfold gNd; rw [HH.out h]; rfl)
  refine (rInt_trkM R bs l bad (gQd bs) 1 (by decide) w1 HRG.out HT.out (fun h hlt => not_pok_qt (by rw [HQt.out h]; exact hlt))).mono ?_
  rintro e w2 ⟨v, l2, b2, rfl, hr, ht, hg, hv, hd⟩
  have hv' : 0 ≤ v ∧ v < 256 := hv
  replace HQ0 := Lib.hid (HQ0.out.rd hd hR)
  have HRG2 := Lib.hid hr
  have HT2 := Lib.hid ht
  have HG := Lib.hid hg
  clear hr ht hg hd hv HRG HT
  go_wp2_with fail
  refine (rSome_trkM R bs l2 b2 (gQd bs + 1) v hv'.1 w2 HRG2.out HT2.out (fun h hlt => not_pok_end (by
    obtain ⟨h0, h1⟩ := HG.out h
    unfold gEnd
    rw [HQt.out h0, HNd.out h0, ← h1]
    exact hlt))).mono ?_
  rintro e w3 ⟨s, l3, b3, rfl, hr, ht, hg, hg2, hby, hsl, hd⟩
  have HFin : Hid (b3 = false → bad = false ∧ s = gDt bs) := Lib.hid (fun h => by
    obtain ⟨h0, h1, -⟩ := hg h
    obtain ⟨h2, h3⟩ := HG.out h0
    refine ⟨h2, ?_⟩
    unfold gDt
    rw [HQt.out h2, HNd.out h2, ← h3, h1])
  have HT3 : Hid (TrkM bs (gEnd bs) l3 b3) := Lib.hid (by
    cases b3 with
    | true => exact ht.any _
    | false =>
      obtain ⟨h0, -, -⟩ := hg rfl
      obtain ⟨h2, h3⟩ := HG.out h0
      unfold gEnd
      rw [HQt.out h2, HNd.out h2, ← h3]
      exact ht)
  have hQ1 := HQ0.out.rd hd hR
  have hcv := conv_str w3 s
  have hbr := bytesWorld_rd R w3 (strOfNums s)
  have hrow := bytesWorld_row w3 s hby hsl
  have hR3 := hr.lt
  have hrg3 : RG (Lib.bytesWorld w3 5 (strOfNums s)) R l3 b3 := hr.block (Lib.bytesWorld_at_old w3 5 (strOfNums s) R hr.lt)
  have hQ2 := hQ1.rd hbr hR
  have hT3 : w.heap.size + 2 ≤ w3.heap.size := hQ1.s
  clear hr ht hg hg2 hby hd hQ1 HQ0 HRG2 HT2 HG HQt HNd hbr HH HBY
  obtain ⟨w4, hw4⟩ : ∃ w4, Lib.bytesWorld w3 5 (strOfNums s) = w4 := ⟨_, rfl⟩
  rw [hw4] at hcv hrow hrg3 hQ2
  clear hw4
  have cc := hQ2.m.c15
  have ff := hQ2.fz 15 (by decide)
  have HQ := Lib.hid (hQ2.set 15 (hQ2.m.upD (.slice (some ⟨w3.heap.size, 0, none⟩) s.length (grownCap w3 s.length 0 5))))
  have hO := (Only.refl w.heap.size w4).setCell (p := ⟨w.heap.size, 15, none⟩) rfl (.slice (some ⟨w3.heap.size, 0, none⟩) s.length (grownCap w3 s.length 0 5))
  have HRG3 := Lib.hid (hrg3.block (hO.block R (by omega)))
  have HRow := Lib.hid (hrow.rdW (hO.rd).w (by omega))
  have HZ : Hid ((w4.setCell ⟨w.heap.size, 15, none⟩ (.slice (some ⟨w3.heap.size, 0, none⟩) s.length (grownCap w3 s.length 0 5))).there (w.heap.size + 1) 0 (msgL F (.slice ia ni ic) (.slice la nl lc) (.slice (some ⟨w3.heap.size, 0, none⟩) s.length (grownCap w3 s.length 0 5))).toArray.size) := Lib.hid (msg_there _ _ _ _ HQ.out.z)
  clear hrow hrg3 hQ2 hO
  go_wp2_with (first | (refine wpList_load_g (op := ⟨some 125, _, _, _, _, _⟩) (by rfl) 30 _ rfl w.heap.size 0 rfl _ _ HQ.out.m.range Try.underlying30 rfl (size_msg _ _ _ _) ?_) | (refine wpList_store_mid (op := ⟨none, Op.store 30 (.tmp 6) (.tmp 125), _, _, _, _⟩) rfl 30 _ _ rfl (w.heap.size + 1) 0 (msgL F (.slice ia ni ic) (.slice la nl lc) (.slice (some ⟨w3.heap.size, 0, none⟩) s.length (grownCap w3 s.length 0 5))).toArray rfl rfl HZ.out (by have e : (msgL F (.slice ia ni ic) (.slice la nl lc) (.slice (some ⟨w3.heap.size, 0, none⟩) s.length (grownCap w3 s.length 0 5))).toArray.size = (msgL F (.slice ia ni ic) (.slice la nl lc) (.slice (some ⟨w3.heap.size, 0, none⟩) s.length (grownCap w3 s.length 0 5))).length := List.size_toArray; rw [e]; exact size_msg _ _ _ _) (msg_one _ _ _ _ _ _ _ _ _ _) ?_))
  obtain ⟨hm, hrd, hrw⟩ := HQ.out.fin
  refine bodyPost_ret (results_rd _ _ (w.heap.size + 1) rfl hm) rfl ?_
  exact ⟨_, _, _, s, l3, b3, rfl, HRG3.out.rdW hrw (by omega), HT3.out, (HRow.out.rdW hrw (by omega)).mono (by omega), HFin.out, hrd⟩
theorem rNum1_trkM (R : Nat) (bs l : List Int) (bad : Bool) (p : Nat) (w : World) (h : RG w R l bad) (ht : TrkM bs p l bad) (hT : bs.length < p + 1 → ¬ POk bs) :
    Calls Try.prog 46 #[.pointer (some ⟨R, 0, none⟩), .int .i64 1] w fun e w' => ∃ v l' bad', e = .returned (.int .u64 v) ∧ RG w' R l' bad' ∧ TrkM bs (p + 1) l' bad' ∧ (bad' = false → bad = false ∧ v = zz bs p) ∧ (0 ≤ v ∧ v < 4294967296) ∧ Rd R w w' := by
  refine (rNum_trkM R bs l bad p 1 (by omega) w h ht (fun _ => hT)).mono ?_
  rintro e w' ⟨v, l', bad', h1, h2, h3, h4, h5, h6⟩
  refine ⟨v, l', bad', h1, h2, h3, fun h => ⟨(h4 h).1, ?_⟩, ⟨h5.1, Int.lt_of_lt_of_le h5.2 (by decide)⟩, h6⟩
  rw [(h4 h).2]
  show (0 : Int) + zz bs (p + 0) * 256 ^ 0 = _
  rw [Nat.add_zero, Int.pow_zero]
  omega
theorem inL3_congr {I I' : Nat → Int} : ∀ n, (∀ i, i < 3 * n → I i = I' i) → inL3 I n = inL3 I' n
  | 0, _ => rfl
  | n + 1, h => by
    unfold inL3
    rw [inL3_congr n (fun i hi => h i (by omega)), h (n * 3) (by omega), h (n * 3 + 1) (by omega), h (n * 3 + 2) (by omega)]
theorem OwnI.congr {w : World} {B n : Nat} {v : Value} {I I' : Nat → Int} (h : OwnI w B v n I) (hi : ∀ i, i < 3 * n → I i = I' i) : OwnI w B v n I' := by
  unfold OwnI at h ⊢
  rwa [inL3_congr n hi] at h
set_option maxHeartbeats 1000000 in
theorem rInput_trkM (R : Nat) (bs l : List Int) (bad : Bool) (p : Nat) (hby : ByteL bs) (w : World) (h : RG w R l bad) (ht : TrkM bs p l bad) (hT : bs.length < p + 3 → ¬ POk bs) :
    Calls Try.prog 60 #[.pointer (some ⟨R, 0, none⟩)] w fun e w' => ∃ x y z l' bad', e = .returned (.agg #[.int .i8 x, .int .i8 y, .int .u8 z]) ∧ RG w' R l' bad' ∧ TrkM bs (p + 3) l' bad' ∧ (bad' = false → bad = false ∧ x = sgn (zz bs p) ∧ y = sgn (zz bs (p + 1)) ∧ z = zz bs (p + 2)) ∧ Rd R w w' := by
  have hlt := h.lt
  have HR := Lib.hid (h.block (Below.heap_alloc w (Obj.cells #[.int .i8 0, .int .i8 0, .int .u8 0] 34) R hlt))
  have HI := Lib.hid (IC.new w 0 0 0 34)
  have HD : Hid (Rd R w (w.alloc (Obj.cells #[.int .i8 0, .int .i8 0, .int .u8 0] 34))) := Lib.hid (Below.rd ((Below.refl w.heap.size w).alloc (Nat.le_refl _) _) (Nat.le_refl _))
  go_enter Try.func60, Try.ntmps60
  go_wp2_with fail
  generalize w.alloc (Obj.cells #[.int .i8 0, .int .i8 0, .int .u8 0] 34) = w1 at *
  refine (rNum1_trkM R bs l bad p w1 HR.out ht (fun h => hT (by omega))).mono ?_
  rintro e w2 ⟨v0, l0, b0, rfl, hr, ht0, hg0, -, hd⟩
  have e1 : IntKind.i8.wrap v0 = IntKind.i8.wrap v0 := rfl
  replace HI := Lib.hid (HI.out.block (hd.block _ HI.out.lt (by omega)))
  have HI2 := Lib.hid HI.out.lt
  replace HD := Lib.hid (HD.out.trans hd)
  have hl2 := hr.lt
  have HJ := Lib.hid (IC.new w2 (IntKind.i8.wrap v0) 0 0 34)
  have bA := (Below.refl w2.heap.size w2).alloc (Nat.le_refl _) (Obj.cells #[.int .i8 (IntKind.i8.wrap v0), .int .i8 0, .int .u8 0] 34)
  replace HI := Lib.hid (HI.out.block (bA.block _ HI.out.lt))
  replace HR := Lib.hid (hr.block (bA.block _ hr.lt))
  replace HD := Lib.hid (HD.out.trans (Below.rd bA (Nat.le_refl _)))
  have hs2 := HI.out.lt
  clear hr hd bA ht e1
  go_wp2_with fail
  have hsz : w.heap.size < (w2.alloc (Obj.cells #[.int .i8 (IntKind.i8.wrap v0), .int .i8 0, .int .u8 0] 34)).heap.size := hs2
  have hT3 : w2.heap.size < (w2.alloc (Obj.cells #[.int .i8 (IntKind.i8.wrap v0), .int .i8 0, .int .u8 0] 34)).heap.size := by simp
  have hw2 : w.heap.size < w2.heap.size := by
    have := HI2.out
    omega
  generalize w2.alloc (Obj.cells #[.int .i8 (IntKind.i8.wrap v0), .int .i8 0, .int .u8 0] 34) = w3 at *
  generalize w2.heap.size = T3 at *
  refine (rNum1_trkM R bs l0 b0 (p + 1) w3 HR.out ht0 (fun h => hT (by omega))).mono ?_
  rintro e w4 ⟨v1, l1, b1, rfl, hr, ht1, hg1, -, hd⟩
  replace HI := Lib.hid (HI.out.block (hd.block _ HI.out.lt (by omega)))
  replace HJ := Lib.hid (HJ.out.block (hd.block _ HJ.out.lt (by omega)))
  replace HD := Lib.hid ((HD.out.trans hd).setNew (b := T3) (j := 1) (u := .int .i8 (IntKind.i8.wrap v1)) (by omega))
  have hJ := HJ.out
  have c1 := hJ.c1
  have f1 := hJ.f1
  replace HR := Lib.hid (hr.block (setCell_block (w := w4) (b := T3) (j := 1) (u := .int .i8 (IntKind.i8.wrap v1)) (by omega)))
  replace HI := Lib.hid (HI.out.block (setCell_block (w := w4) (b := T3) (j := 1) (u := .int .i8 (IntKind.i8.wrap v1)) (by omega)))
  replace HJ := Lib.hid (hJ.set1 (IntKind.i8.wrap v1))
  clear hr hd hJ
  go_wp2_with fail
  clear c1 f1
  generalize w4.setCell ⟨T3, 1, none⟩ (.int .i8 (IntKind.i8.wrap v1)) = w5 at *
  refine (rNum1_trkM R bs l1 b1 (p + 1 + 1) w5 HR.out ht1 (fun h => hT (by omega))).mono ?_
  rintro e w6 ⟨v2, l2, b2, rfl, hr, ht2, hg2, hv2, hd⟩
  replace HI := Lib.hid (HI.out.block (hd.block _ HI.out.lt (by omega)))
  replace HJ := Lib.hid (HJ.out.block (hd.block _ HJ.out.lt (by omega)))
  have HI0 := HI
  replace HD := Lib.hid ((HD.out.trans hd).setNew (b := T3) (j := 2) (u := .int .u8 (v2 % 256)) (by omega))
  have hJ := HJ.out
  have c2 := hJ.c2
  have f2 := hJ.f2
  replace HR := Lib.hid (hr.block (setCell_block (w := w6) (b := T3) (j := 2) (u := .int .u8 (v2 % 256)) (by omega)))
  replace HI := Lib.hid (HI.out.block (setCell_block (w := w6) (b := T3) (j := 2) (u := .int .u8 (v2 % 256)) (by omega)))
  have hJ2 := hJ.set2 (v2 % 256)
  obtain ⟨a0, a1, a2, g0, g1, g2⟩ := HI0.out
  have k0 := hJ2.c0
  have k1 := hJ2.c1
  have k2 := hJ2.c2
  clear hr hd hJ HJ hJ2
  have hne : w.heap.size ≠ T3 := by omega
  have hne' : T3 ≠ w.heap.size := by omega
  go_wp2_with fail
  have hF := ((HI.out.set0 (IntKind.i8.wrap v0)).set1 (IntKind.i8.wrap v1)).set2 (v2 % 256)
  have HIF := Lib.hid hF
  have HRF : Hid (RG (((((w6.setCell ⟨T3, 2, none⟩ (.int .u8 (v2 % 256))).setCell ⟨w.heap.size, 0, none⟩ (.int .i8 (IntKind.i8.wrap v0))).setCell ⟨w.heap.size, 1, none⟩ (.int .i8 (IntKind.i8.wrap v1))).setCell ⟨w.heap.size, 2, none⟩ (.int .u8 (v2 % 256)))) R l2 b2) := Lib.hid (((HR.out.block (setCell_block (by omega))).block (setCell_block (by omega))).block (setCell_block (by omega)))
  have HDF := Lib.hid (((HD.out.setNew (b := w.heap.size) (j := 0) (u := .int .i8 (IntKind.i8.wrap v0)) (Nat.le_refl _)).setNew (b := w.heap.size) (j := 1) (u := .int .i8 (IntKind.i8.wrap v1)) (Nat.le_refl _)).setNew (b := w.heap.size) (j := 2) (u := .int .u8 (v2 % 256)) (Nat.le_refl _))
  clear hF HR HD HI HI0 a0 a1 a2 g0 g1 g2 k0 k1 k2 c2 f2
  generalize ((((w6.setCell ⟨T3, 2, none⟩ (.int .u8 (v2 % 256))).setCell ⟨w.heap.size, 0, none⟩ (.int .i8 (IntKind.i8.wrap v0))).setCell ⟨w.heap.size, 1, none⟩ (.int .i8 (IntKind.i8.wrap v1))).setCell ⟨w.heap.size, 2, none⟩ (.int .u8 (v2 % 256))) = w9 at *
  have hfin : b2 = false → bad = false ∧ IntKind.i8.wrap v0 = sgn (zz bs p) ∧ IntKind.i8.wrap v1 = sgn (zz bs (p + 1)) ∧ v2 % 256 = zz bs (p + 2) := fun h => by
    obtain ⟨h1, e2⟩ := hg2 h
    obtain ⟨h0, e1⟩ := hg1 h1
    obtain ⟨hb, e0⟩ := hg0 h0
    have := hby (p + 2)
    refine ⟨hb, ?_, ?_, ?_⟩
    · rw [e0]; exact i8_sgn _ (hby p)
    · rw [e1]; exact i8_sgn _ (hby (p + 1))
    · rw [e2]; show zz bs (p + 2) % 256 = _; omega
  refine bodyPost_ret (results_rin _ _ w.heap.size rfl HIF.out) rfl ?_
  exact ⟨_, _, _, l2, b2, rfl, HRF.out, ht2, hfin, HDF.out⟩
def upI3 (I : Nat → Int) (k : Nat) (x y z : Int) : Nat → Int := fun i => if i = k * 3 then x else if i = k * 3 + 1 then y else if i = k * 3 + 2 then z else I i
theorem upI3_old (I : Nat → Int) (k : Nat) (x y z : Int) (i : Nat) (h : i < 3 * k) : upI3 I k x y z i = I i := by unfold upI3; rw [if_neg (by omega), if_neg (by omega), if_neg (by omega)]
theorem upI3_0 (I : Nat → Int) (k : Nat) (x y z : Int) : upI3 I k x y z (k * 3) = x := by unfold upI3; rw [if_pos rfl]
theorem upI3_1 (I : Nat → Int) (k : Nat) (x y z : Int) : upI3 I k x y z (k * 3 + 1) = y := by unfold upI3; rw [if_neg (by omega), if_pos rfl]
theorem upI3_2 (I : Nat → Int) (k : Nat) (x y z : Int) : upI3 I k x y z (k * 3 + 2) = z := by unfold upI3; rw [if_neg (by omega), if_neg (by omega), if_pos rfl]
theorem upI3_in (I : Nat → Int) (bs : List Int) (k : Nat) (x y z : Int) (e0 : x = sgn (zz bs (gQi bs + 3 * k))) (e1 : y = sgn (zz bs (gQi bs + 3 * k + 1))) (e2 : z = zz bs (gQi bs + 3 * k + 2)) (h : ∀ i, i < 3 * k → I i = gIn bs i) (i : Nat) (hi : i < 3 * (k + 1)) : upI3 I k x y z i = gIn bs i := by
  by_cases h0 : i < 3 * k
  · rw [upI3_old _ _ _ _ _ _ h0]; exact h i h0
  · rcases (by omega : i = k * 3 ∨ i = k * 3 + 1 ∨ i = k * 3 + 2) with rfl | rfl | rfl
    · rw [upI3_0, e0]; unfold gIn; rw [if_neg (by omega), show gQi bs + k * 3 = gQi bs + 3 * k by omega]
    · rw [upI3_1, e1]; unfold gIn; rw [if_neg (by omega), show gQi bs + (k * 3 + 1) = gQi bs + 3 * k + 1 by omega]
    · rw [upI3_2, e2]; unfold gIn; rw [if_pos (by omega), show gQi bs + (k * 3 + 2) = gQi bs + 3 * k + 2 by omega]
/-- The longer row goes into its cell. -/
theorem RQ.grewI {w wr w' : World} {R : Nat} {F : Nat → Int} {a : Option Addr} {n c : Nat} {lv dv v' : Value} {m m0 : Nat} {I I0 : Nat → Int} {l : List Int} {bad : Bool} (h : RQ w R F (.slice a n c) lv dv wr) (hR : R < w.heap.size) (hr : RG wr R l bad) (hown : OwnI wr (w.heap.size + 2) (.slice a n c) m0 I0) (hO : OwnI w' (w.heap.size + 2) v' m I) (hg : wr.grownBy w' (Value.slice a n c).ownBlock) :
    RQ w R F v' lv dv (w'.setCell ⟨w.heap.size, 13, none⟩ v') ∧ w'.cell? ⟨w.heap.size, 13, none⟩ = some (.slice a n c) ∧ w'.frozen? ⟨w.heap.size, 13, none⟩ = false ∧ RG (w'.setCell ⟨w.heap.size, 13, none⟩ v') R l bad ∧ OwnI (w'.setCell ⟨w.heap.size, 13, none⟩ v') (w.heap.size + 2) v' m I := by
  have hs := h.s
  have hk : ∀ b, b < w.heap.size + 2 → w'.heap[b]? = wr.heap[b]? := fun b hb => hg.block b (by omega) (fun e => by have := (World.ownsRow.lt hown b e.symm).1; omega)
  have hS := (Only.refl w.heap.size w').setCell (p := ⟨w.heap.size, 13, none⟩) rfl v'
  have hm' := h.m.block (hk w.heap.size (by omega))
  have ht' := there_block h.th (hk w.heap.size (by omega))
  have hz' := there_block h.z (hk (w.heap.size + 1) (by omega))
  refine ⟨⟨hm'.upI v', there_setW ht', there_block hz' (hS.block _ (by omega)), ⟨hg.os.trans h.d.os, hg.tape.trans h.d.tape, hg.output.trans h.d.output, ?_, fun k hk1 hne => ?_⟩, ?_⟩, hm'.c13, ?_, (hr.block (hk R (by omega))).block (hS.block R (by omega)), hO.rdW hS.rd.w (by omega)⟩
  · rw [hS.size]; exact Nat.le_trans h.d.size hg.size
  · exact (hS.block k (by omega)).trans ((hk k (by omega)).trans (h.d.block k hk1 hne))
  · rw [hS.size]; exact Nat.le_trans hs hg.size
  · have := (ht' 13 (by omega)).2; rwa [Nat.zero_add] at this
set_option maxRecDepth 100000 in
set_option maxHeartbeats 8000000 in
theorem readIn_any (bs : List Int) (R : Nat) (F : Nat → Int) (la da : Option Addr) (nl lc nd dc : Nat) (l : List Int) (bad : Bool) (w : World) (hr : RG w R l bad) (ht : TrkM bs (gPs bs 8) l bad) (hh : bad = false → hasB (gK bs) 8 = true) (hby : ByteL bs) :
    Calls Try.prog 47 #[.agg (msgL F (.slice none 0 0) (.slice la nl lc) (.slice da nd dc)).toArray, .pointer (some ⟨R, 0, none⟩), .int .u8 (ltr 8 : Nat)] w fun e w' => ∃ a n c n' I' l' bad', e = .returned (.agg (msgL F (.slice a n c) (.slice la nl lc) (.slice da nd dc)).toArray) ∧ RG w' R l' bad' ∧ TrkM bs (gQl bs) l' bad' ∧ OwnI w' w.heap.size (.slice a n c) n' I' ∧ (bad' = false → bad = false ∧ n' = gNi bs ∧ ∀ i, i < 3 * n' → I' i = gIn bs i) ∧ Rd R w w' := by
  have HQ0 := Lib.hid (rq_start w R F (.slice none 0 0) (.slice la nl lc) (.slice da nd dc))
  have hR := hr.lt
  have HRG := Lib.hid ((hr.block (Below.heap_alloc w (Obj.cells (msgL F (.slice none 0 0) (.slice la nl lc) (.slice da nd dc)).toArray 30) R hr.lt)).block (Below.heap_alloc _ (Obj.cells #[.int .i64 0, .int .i64 0, .int .u16 0, .int .u16 0, .int .u32 0, .int .i64 0, .int .i64 0, .int .i64 0, .int .i64 0, .int .i64 0, .int .i64 0, .int .u32 0, .int .u64 0, .slice none 0 0, .slice none 0 0, .slice none 0 0] 30) R (by simp; omega)))
  have HT := Lib.hid ht
  have HH := Lib.hid hh
  clear hr ht hh
  have HBY := Lib.hid hby
  clear hby
  have hl : ((ltr 8 : Nat) : Int) = 105 := rfl
  rw [hl]
  clear hl
  go_enter Try.func47, Try.ntmps47
  go_wp2_with fail
  generalize (w.alloc (Obj.cells (msgL F (.slice none 0 0) (.slice la nl lc) (.slice da nd dc)).toArray 30)).alloc (Obj.cells #[.int .i64 0, .int .i64 0, .int .u16 0, .int .u16 0, .int .u32 0, .int .i64 0, .int .i64 0, .int .i64 0, .int .i64 0, .int .i64 0, .int .i64 0, .int .u32 0, .int .u64 0, .slice none 0 0, .slice none 0 0, .slice none 0 0] 30) = w1 at *
  have HQi : Hid (bad = false → gQi bs = gPs bs 8 + 1) := Lib.hid (fun h => by unfold gQi; rw [HH.out h]; rfl)
  have HNi : Hid (bad = false → gNi bs = (leV bs (gPs bs 8) 1).toNat) := Lib.hid (fun h => by unfold gNi; rw [HH.out h]; rfl)
  refine (rInt_trkM R bs l bad (gPs bs 8) 1 (by decide) w1 HRG.out HT.out (fun h hlt => not_pok_qi (by rw [HQi.out h]; exact hlt))).mono ?_
  rintro e w2 ⟨v, l1, b1, rfl, hr, ht, hg, hv, hd⟩
  have hv' : 0 ≤ v ∧ v < 256 := hv
  obtain ⟨nN, rfl⟩ : ∃ n : Nat, v = n := ⟨v.toNat, by omega⟩
  have HG : Hid (b1 = false → bad = false ∧ nN = gNi bs) := Lib.hid (fun h => by
    obtain ⟨h0, h1⟩ := hg h
    refine ⟨h0, ?_⟩
    rw [HNi.out h0, ← h1]
    rfl)
  have HT1 : Hid (TrkM bs (gQi bs + 3 * 0) l1 b1) := Lib.hid (by
    cases b1 with
    | true => exact ht.any _
    | false => rw [HQi.out (hg rfl).1]; exact ht)
  have HQ1 := Lib.hid (HQ0.out.rd hd hR)
  have HRG1 := Lib.hid hr
  have HO1 : Hid (OwnI w2 (w.heap.size + 2) (.slice none 0 0) 0 (gIn bs)) := Lib.hid (World.ownsRow_nil _ _ _ _)
  clear hr ht hg hd hv HRG HT HQ0 HQi HNi
  go_wp2_with fail
  go_loopw [8] (fun i wr => ∃ (k : Nat) (a2 : Option Addr) (n2 c2 : Nat) (I2 : Nat → Int) (l2 : List Int) (bad2 : Bool), k ≤ nN ∧ i = .int .i64 k ∧ RQ w R F (.slice a2 n2 c2) (.slice la nl lc) (.slice da nd dc) wr ∧ RG wr R l2 bad2 ∧ TrkM bs (gQi bs + 3 * k) l2 bad2 ∧ OwnI wr (w.heap.size + 2) (.slice a2 n2 c2) k I2 ∧ (bad2 = false → b1 = false ∧ ∀ i, i < 3 * k → I2 i = gIn bs i)) (fun i _ => nN - (intOf i).toNat)
  case atStart => exact ⟨0, none, 0, 0, gIn bs, l1, b1, Nat.zero_le _, rfl, HQ1.out, HRG1.out, HT1.out, HO1.out, fun h => ⟨h, fun i hi => by omega⟩⟩
  case round =>
    obtain ⟨k, a2, n2, c2, I2, l2, bad2, hk, rfl, hq, hr, ht, ho, hgd⟩ := hrel
    clear HQ1 HRG1 HT1 HO1
    have HQ := Lib.hid hq
    have HRG := Lib.hid hr
    have HTk := Lib.hid ht
    have HO := Lib.hid ho
    have HGd := Lib.hid hgd
    have c1 := hr.c1
    clear hq ht ho hgd hr
    by_cases hlt : k < nN
    · have hki : (k : Int) < (nN : Int) := by omega
      cases bad2 with
      | false =>
        have HNo2 : Hid (bs.length < gQi bs + 3 * k + 3 → ¬ POk bs) := Lib.hid (fun h => not_pok_in (i := k) (by
          have h1 := (HGd.out rfl).1
          have h2 := (HG.out h1).2
          omega) h)
        have hk1000 : k ≤ 1000 := by omega
        have HQd := Lib.hid (HQ.out.rd (R := R) (wr' := wr.drew) ⟨rfl, rfl, rfl, Nat.le_refl _, fun _ _ _ => rfl⟩ hR)
        have HRGd := Lib.hid (HRG.out.block (w' := wr.drew) rfl)
        have HOd := Lib.hid (HO.out.rdW (w' := wr.drew) (R := R) ⟨rfl, rfl, rfl, Nat.le_refl _, fun _ _ _ => rfl⟩ (by omega))
        have cN0 := HQd.out.m.c13
        clear HQ HRG HO
        go_wp2_with fail
        clear c1
        refine wp_region_any (by kernel_rfl) ?_
        change wpAny _ _ _ _ _ _ _ (World.drew _)
        refine wpAny_take (i := 0) (v := ?_) rfl (by kernel_rfl) (by kernel_rfl) (by kernel_rfl) (fun _ _ _ h => h) (Or.inl ⟨by rfl, ?_⟩) ?_
        rotate_left 1
        · intro w; go_simp; try with_reducible rfl
        refine wpAny_take (i := 2) (v := ?_) rfl (by kernel_rfl) (by kernel_rfl) (by kernel_rfl) (fun _ _ _ h => h) (Or.inl ⟨by rfl, ?_⟩) ?_
        rotate_left 1
        · intro w; go_simp; try with_reducible rfl
        refine wpAny_ready (rs := [1, 3]) (by kernel_rfl) (by simp) ?_
        refine AllReady.cons rfl (fun K hK => ?_) (AllReady.cons rfl (fun K hK => ?_) AllReady.nil)
        · skip
          go_simp
          refine hK _ _ ?_
          clear hK K
          refine wpAny_ready (rs := [3]) (by kernel_rfl) (by simp) ?_
          refine AllReady.cons rfl (fun K hK => ?_) AllReady.nil
          go_simp
          go_at_call 60
          refine (rInput_trkM R bs l2 false (gQi bs + 3 * k) HBY.out _ HRGd.out HTk.out HNo2.out).mono ?_
          rintro e w5 ⟨x, y, z, l5, b5, rfl, hr5, ht5, hg5, hd5⟩
          have HQ5 := Lib.hid (HQd.out.rd hd5 hR)
          have HO5 := Lib.hid (HOd.out.rdW hd5.w (by omega))
          have HRG5 := Lib.hid hr5
          have HT5 := Lib.hid ht5
          have HG5 := Lib.hid hg5
          have cN5 := HQ5.out.m.c13
          clear hr5 ht5 hg5 hd5 HQd HOd HRGd cN0
          refine hK _ _ ?_
          clear hK K
          refine wpAny_ready (rs := [4]) (by kernel_rfl) (by simp) ?_
          refine AllReady.cons rfl (fun K hK => ?_) AllReady.nil
          go_simp
          refine hK _ _ ?_
          clear hK K
          refine wpAny_ready (rs := [5]) (by kernel_rfl) (by simp) ?_
          refine AllReady.cons rfl (fun K hK => ?_) AllReady.nil
          refine step_app_in rfl (.tmp 78) (.tmp 81) rfl (w.heap.size + 2) (.slice a2 n2 c2) k (upI3 I2 k x y z) (HO5.out.congr (fun i hi => (upI3_old I2 k x y z i hi).symm)) hk1000 (by simp [Act.eval, Act.put]) HQ5.out.s x y z (upI3_0 I2 k x y z).symm (upI3_1 I2 k x y z).symm (upI3_2 I2 k x y z).symm (by first | rfl | skip) (by simp [Act.eval, Act.put]) ?_
          intro v' w' hO hg hob hex
          obtain ⟨g, cap, rfl⟩ := hex
          obtain ⟨hq', hc', hf', hrg', ho'⟩ := HQ5.out.grewI hR HRG5.out HO5.out hO hg
          have HQ' := Lib.hid hq'
          have HRG' := Lib.hid hrg'
          have HO' := Lib.hid ho'
          clear hq' hrg' ho' hO hg hob HQ5 HRG5 HO5 cN5
          try clear cA
          refine hK _ _ ?_
          clear hK K
          refine wpAny_take (i := 6) (v := ?_) rfl (by kernel_rfl) (by kernel_rfl) (by kernel_rfl) (fun _ _ _ h => h) (Or.inl ⟨by rfl, ?_⟩) ?_
          rotate_left 1
          · intro w; go_simp; try with_reducible rfl
          refine wpAny_ready (rs := [7]) (by kernel_rfl) (by simp) ?_
          refine AllReady.cons rfl (fun K hK => ?_) AllReady.nil
          go_simp
          refine hK _ _ ?_
          clear hK K
          refine wpAny_done (by kernel_rfl) ?_ _
          clear hc' hf'
          go_wp2_with fail
          refine ⟨⟨k + 1, some ⟨g, 0, none⟩, k + 1, cap, upI3 I2 k x y z, l5, b5, by omega, by go_num, HQ'.out, HRG'.out, by rw [show gQi bs + 3 * (k + 1) = gQi bs + 3 * k + 3 by omega]; exact HT5.out, HO'.out, fun h => ?_⟩, by simp [intOf]; omega⟩
          obtain ⟨-, e0, e1, e2⟩ := HG5.out h
          obtain ⟨g1, g2⟩ := HGd.out (by first | rfl | trivial)
          refine ⟨g1, fun i hi => ?_⟩
          exact upI3_in I2 bs k x y z e0 e1 e2 g2 i hi
        · skip
          go_simp
          go_at_call 60
          refine (rInput_trkM R bs l2 false (gQi bs + 3 * k) HBY.out _ HRGd.out HTk.out HNo2.out).mono ?_
          rintro e w5 ⟨x, y, z, l5, b5, rfl, hr5, ht5, hg5, hd5⟩
          have HQ5 := Lib.hid (HQd.out.rd hd5 hR)
          have HO5 := Lib.hid (HOd.out.rdW hd5.w (by omega))
          have HRG5 := Lib.hid hr5
          have HT5 := Lib.hid ht5
          have HG5 := Lib.hid hg5
          have cN5 := HQ5.out.m.c13
          clear hr5 ht5 hg5 hd5 HQd HOd HRGd cN0
          refine hK _ _ ?_
          clear hK K
          refine wpAny_ready (rs := [1, 4]) (by kernel_rfl) (by simp) ?_
          refine AllReady.cons rfl (fun K hK => ?_) (AllReady.cons rfl (fun K hK => ?_) AllReady.nil)
          · skip
            go_simp
            refine hK _ _ ?_
            clear hK K
            refine wpAny_ready (rs := [4]) (by kernel_rfl) (by simp) ?_
            refine AllReady.cons rfl (fun K hK => ?_) AllReady.nil
            go_simp
            refine hK _ _ ?_
            clear hK K
            refine wpAny_ready (rs := [5]) (by kernel_rfl) (by simp) ?_
            refine AllReady.cons rfl (fun K hK => ?_) AllReady.nil
            refine step_app_in rfl (.tmp 78) (.tmp 81) rfl (w.heap.size + 2) (.slice a2 n2 c2) k (upI3 I2 k x y z) (HO5.out.congr (fun i hi => (upI3_old I2 k x y z i hi).symm)) hk1000 (by simp [Act.eval, Act.put]) HQ5.out.s x y z (upI3_0 I2 k x y z).symm (upI3_1 I2 k x y z).symm (upI3_2 I2 k x y z).symm (by first | rfl | skip) (by simp [Act.eval, Act.put]) ?_
            intro v' w' hO hg hob hex
            obtain ⟨g, cap, rfl⟩ := hex
            obtain ⟨hq', hc', hf', hrg', ho'⟩ := HQ5.out.grewI hR HRG5.out HO5.out hO hg
            have HQ' := Lib.hid hq'
            have HRG' := Lib.hid hrg'
            have HO' := Lib.hid ho'
            clear hq' hrg' ho' hO hg hob HQ5 HRG5 HO5 cN5
            try clear cA
            refine hK _ _ ?_
            clear hK K
            refine wpAny_take (i := 6) (v := ?_) rfl (by kernel_rfl) (by kernel_rfl) (by kernel_rfl) (fun _ _ _ h => h) (Or.inl ⟨by rfl, ?_⟩) ?_
            rotate_left 1
            · intro w; go_simp; try with_reducible rfl
            refine wpAny_ready (rs := [7]) (by kernel_rfl) (by simp) ?_
            refine AllReady.cons rfl (fun K hK => ?_) AllReady.nil
            go_simp
            refine hK _ _ ?_
            clear hK K
            refine wpAny_done (by kernel_rfl) ?_ _
            clear hc' hf'
            go_wp2_with fail
            refine ⟨⟨k + 1, some ⟨g, 0, none⟩, k + 1, cap, upI3 I2 k x y z, l5, b5, by omega, by go_num, HQ'.out, HRG'.out, by rw [show gQi bs + 3 * (k + 1) = gQi bs + 3 * k + 3 by omega]; exact HT5.out, HO'.out, fun h => ?_⟩, by simp [intOf]; omega⟩
            obtain ⟨-, e0, e1, e2⟩ := HG5.out h
            obtain ⟨g1, g2⟩ := HGd.out (by first | rfl | trivial)
            refine ⟨g1, fun i hi => ?_⟩
            exact upI3_in I2 bs k x y z e0 e1 e2 g2 i hi
          · skip
            have cA := fun o => (World.cell?_of_block (a := ⟨w.heap.size, 13, none⟩) (Below.heap_alloc w5 o w.heap.size HQ5.out.m.lt)).trans cN5
            go_simp
            refine hK _ _ ?_
            clear hK K
            refine wpAny_ready (rs := [1]) (by kernel_rfl) (by simp) ?_
            refine AllReady.cons rfl (fun K hK => ?_) AllReady.nil
            go_simp
            refine hK _ _ ?_
            clear hK K
            refine wpAny_ready (rs := [5]) (by kernel_rfl) (by simp) ?_
            refine AllReady.cons rfl (fun K hK => ?_) AllReady.nil
            refine step_app_in rfl (.tmp 78) (.tmp 81) rfl (w.heap.size + 2) (.slice a2 n2 c2) k (upI3 I2 k x y z) (HO5.out.congr (fun i hi => (upI3_old I2 k x y z i hi).symm)) hk1000 (by simp [Act.eval, Act.put]) HQ5.out.s x y z (upI3_0 I2 k x y z).symm (upI3_1 I2 k x y z).symm (upI3_2 I2 k x y z).symm (by first | rfl | skip) (by simp [Act.eval, Act.put]) ?_
            intro v' w' hO hg hob hex
            obtain ⟨g, cap, rfl⟩ := hex
            obtain ⟨hq', hc', hf', hrg', ho'⟩ := HQ5.out.grewI hR HRG5.out HO5.out hO hg
            have HQ' := Lib.hid hq'
            have HRG' := Lib.hid hrg'
            have HO' := Lib.hid ho'
            clear hq' hrg' ho' hO hg hob HQ5 HRG5 HO5 cN5
            try clear cA
            refine hK _ _ ?_
            clear hK K
            refine wpAny_take (i := 6) (v := ?_) rfl (by kernel_rfl) (by kernel_rfl) (by kernel_rfl) (fun _ _ _ h => h) (Or.inl ⟨by rfl, ?_⟩) ?_
            rotate_left 1
            · intro w; go_simp; try with_reducible rfl
            refine wpAny_ready (rs := [7]) (by kernel_rfl) (by simp) ?_
            refine AllReady.cons rfl (fun K hK => ?_) AllReady.nil
            go_simp
            refine hK _ _ ?_
            clear hK K
            refine wpAny_done (by kernel_rfl) ?_ _
            clear hc' hf'
            go_wp2_with fail
            refine ⟨⟨k + 1, some ⟨g, 0, none⟩, k + 1, cap, upI3 I2 k x y z, l5, b5, by omega, by go_num, HQ'.out, HRG'.out, by rw [show gQi bs + 3 * (k + 1) = gQi bs + 3 * k + 3 by omega]; exact HT5.out, HO'.out, fun h => ?_⟩, by simp [intOf]; omega⟩
            obtain ⟨-, e0, e1, e2⟩ := HG5.out h
            obtain ⟨g1, g2⟩ := HGd.out (by first | rfl | trivial)
            refine ⟨g1, fun i hi => ?_⟩
            exact upI3_in I2 bs k x y z e0 e1 e2 g2 i hi
      | true =>
        have HTf := Lib.hid (TrkM.any (gQl bs) HTk.out)
        have HFin : Hid (true = false → bad = false ∧ k = gNi bs ∧ ∀ i, i < 3 * k → I2 i = gIn bs i) := Lib.hid (fun h => by cases h)
        obtain ⟨bad2, hb2⟩ : ∃ b, b = true := ⟨_, rfl⟩
        rw [← hb2] at HFin HTf HRG
        clear hb2 HGd HTk
        have HZ : Hid (wr.there (w.heap.size + 1) 0 (msgL F (.slice a2 n2 c2) (.slice la nl lc) (.slice da nd dc)).toArray.size) := Lib.hid (msg_there _ _ _ _ HQ.out.z)
        go_wp2_with (first | (refine wpList_load_g (op := ⟨some 125, _, _, _, _, _⟩) (by rfl) 30 _ rfl w.heap.size 0 rfl _ _ HQ.out.m.range Try.underlying30 rfl (size_msg _ _ _ _) ?_) | (refine wpList_store_mid (op := ⟨none, Op.store 30 (.tmp 6) (.tmp 125), _, _, _, _⟩) rfl 30 _ _ rfl (w.heap.size + 1) 0 (msgL F (.slice a2 n2 c2) (.slice la nl lc) (.slice da nd dc)).toArray rfl rfl HZ.out (by have e : (msgL F (.slice a2 n2 c2) (.slice la nl lc) (.slice da nd dc)).toArray.size = (msgL F (.slice a2 n2 c2) (.slice la nl lc) (.slice da nd dc)).length := List.size_toArray; rw [e]; exact size_msg _ _ _ _) (msg_one _ _ _ _ _ _ _ _ _ _) ?_))
        obtain ⟨hm, hrd, hrw⟩ := HQ.out.fin
        refine bodyPost_ret (results_rd _ _ (w.heap.size + 1) rfl hm) rfl ?_
        exact ⟨a2, n2, c2, k, I2, l2, bad2, rfl, HRG.out.rdW hrw (by omega), HTf.out, ((HO.out.rdW hrw (by omega)).mono (by omega)), HFin.out, hrd⟩
    · obtain rfl : k = nN := by omega
      have HTf : Hid (TrkM bs (gQl bs) l2 bad2) := Lib.hid (by
        cases bad2 with
        | true => exact HTk.out.any _
        | false =>
          have h1 := (HGd.out rfl).1
          have h2 := (HG.out h1).2
          unfold gQl
          rw [← h2]
          exact HTk.out)
      have HFin : Hid (bad2 = false → bad = false ∧ k = gNi bs ∧ ∀ i, i < 3 * k → I2 i = gIn bs i) := Lib.hid (fun h => by
        obtain ⟨h1, h2⟩ := HGd.out h
        obtain ⟨h3, h4⟩ := HG.out h1
        exact ⟨h3, h4, h2⟩)
      clear HGd HTk
      have HZ : Hid (wr.there (w.heap.size + 1) 0 (msgL F (.slice a2 n2 c2) (.slice la nl lc) (.slice da nd dc)).toArray.size) := Lib.hid (msg_there _ _ _ _ HQ.out.z)
      go_wp2_with (first | (refine wpList_load_g (op := ⟨some 125, _, _, _, _, _⟩) (by rfl) 30 _ rfl w.heap.size 0 rfl _ _ HQ.out.m.range Try.underlying30 rfl (size_msg _ _ _ _) ?_) | (refine wpList_store_mid (op := ⟨none, Op.store 30 (.tmp 6) (.tmp 125), _, _, _, _⟩) rfl 30 _ _ rfl (w.heap.size + 1) 0 (msgL F (.slice a2 n2 c2) (.slice la nl lc) (.slice da nd dc)).toArray rfl rfl HZ.out (by have e : (msgL F (.slice a2 n2 c2) (.slice la nl lc) (.slice da nd dc)).toArray.size = (msgL F (.slice a2 n2 c2) (.slice la nl lc) (.slice da nd dc)).length := List.size_toArray; rw [e]; exact size_msg _ _ _ _) (msg_one _ _ _ _ _ _ _ _ _ _) ?_))
      obtain ⟨hm, hrd, hrw⟩ := HQ.out.fin
      refine bodyPost_ret (results_rd _ _ (w.heap.size + 1) rfl hm) rfl ?_
      exact ⟨a2, n2, c2, k, I2, l2, bad2, rfl, HRG.out.rdW hrw (by omega), HTf.out, ((HO.out.rdW hrw (by omega)).mono (by omega)), HFin.out, hrd⟩
end Go.Proofs.Ytembppihfcclcaa
