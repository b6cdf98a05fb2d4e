/-
  Wire: the reference's read: numbers, data.
-/
import Derived.Test.YtembppihfcclcaaG17x
import Derived.Test.YtembppihfcclcaaMT
import Derived.Test.YtembppihfcclcaaZE
import Derived.Lib.ConvBytes
import Derived.Deep.DeepCutAuto
namespace Go.Proofs.Ytembppihfcclcaa
set_option linter.unusedVariables false
open Go.ChangeShapes Go.WideShapes Go.ChangeAt Go.RowKit

set_option linter.unusedSimpArgs false
theorem results_rd (tmps : Array Value) (w : World) (b : Nat) (h2 : tmps.getD 6 undef = .pointer (some ⟨b, 0, none⟩)) {F : Nat → Int} {iv lv dv : Value} (he : MsgAt w b F iv lv dv) :
    (results Try.f47 tmps).run Try.prog w = .ok (.agg (msgL F iv lv dv).toArray) w := by
  have hl := run_loadVar_mid (P := Try.prog) w b 0 30 (msgL F iv lv dv) _ he.range Try.underlying30 rfl (size_msg F iv lv dv)
  have h2' : tmps[6]?.getD undef = .pointer (some ⟨b, 0, none⟩) := by simpa using h2
  simp [results, Try.results47, h2', asAddr, hl]
def uW (F : Nat → Int) (k : Nat) (v : Int) : Nat → Int := fun j => if j = k then v else F j
theorem MsgAt.upW {w : World} {b : Nat} {F : Nat → Int} {iv lv dv : Value} (h : MsgAt w b F iv lv dv) (k : Nat) (hk : k < 13) (v : Int) : MsgAt (w.setCell ⟨b, k, none⟩ (.int (Ytembppihfcclcaa.mk k) v)) b (uW F k v) iv lv dv := by
  refine h.set k (fun j hj => ?_)
  unfold msgF uW
  by_cases e : j = k
  · subst e
    rw [if_neg (by omega), if_neg (by omega), if_neg (by omega), if_pos rfl, if_pos rfl]
  · rw [if_neg e, if_neg e]
theorem MsgAt.upI {w : World} {b : Nat} {F : Nat → Int} {iv lv dv : Value} (h : MsgAt w b F iv lv dv) (v : Value) : MsgAt (w.setCell ⟨b, 13, none⟩ v) b F v lv dv := by
  refine h.set 13 (fun j hj => ?_)
  unfold msgF
  by_cases h13 : j = 13
  · rw [if_pos h13, if_pos h13]
  · rw [if_neg h13, if_neg h13, if_neg h13]
theorem MsgAt.upL {w : World} {b : Nat} {F : Nat → Int} {iv lv dv : Value} (h : MsgAt w b F iv lv dv) (v : Value) : MsgAt (w.setCell ⟨b, 14, none⟩ v) b F iv v dv := by
  refine h.set 14 (fun j hj => ?_)
  unfold msgF
  by_cases h13 : j = 13
  · rw [if_pos h13, if_neg (by omega), if_pos h13]
  · by_cases h14 : j = 14
    · rw [if_neg h13, if_pos h14, if_pos h14]
    · rw [if_neg h13, if_neg h14, if_neg h14, if_neg h13, if_neg h14]
theorem MsgAt.upD {w : World} {b : Nat} {F : Nat → Int} {iv lv dv : Value} (h : MsgAt w b F iv lv dv) (v : Value) : MsgAt (w.setCell ⟨b, 15, none⟩ v) b F iv lv v := by
  refine h.set 15 (fun j hj => ?_)
  unfold msgF
  by_cases h13 : j = 13
  · rw [if_pos h13, if_neg (by omega), if_pos h13]
  · by_cases h14 : j = 14
    · rw [if_neg h13, if_pos h14, if_neg (by omega), if_neg h13, if_pos h14]
    · by_cases h15 : j = 15
      · rw [if_neg h13, if_neg h14, if_pos h15, if_pos h15]
      · rw [if_neg h13, if_neg h14, if_neg h15, if_neg h15, if_neg h13, if_neg h14, if_neg h15]
theorem msg_one (F : Nat → Int) (a1 a2 a3 : Option Addr) (n1 c1 n2 c2 n3 c3 : Nat) : (msgL F (.slice a1 n1 c1) (.slice a2 n2 c2) (.slice a3 n3 c3)).toArray.all (·.oneCell') = true := all_oneCell_toArray (by
  unfold msgL; intro x hx; rw [List.mem_map] at hx; obtain ⟨k, -, rfl⟩ := hx
  unfold msgF
  repeat' split
  all_goals rfl)
theorem msg_there {w : World} {b : Nat} (F : Nat → Int) (iv lv dv : Value) (h : w.there b 0 16) : w.there b 0 (msgL F iv lv dv).toArray.size := by
  have e : (msgL F iv lv dv).toArray.size = 16 := by rw [List.size_toArray, msgL_len]
  rw [e]
  exact h
/-- Where read stands: the message in the call's first block; of what was there only block R may have changed. -/
structure RQ (w : World) (R : Nat) (F : Nat → Int) (iv lv dv : Value) (wr : World) : Prop where
  m : MsgAt wr w.heap.size F iv lv dv
  th : wr.there w.heap.size 0 16
  z : wr.there (w.heap.size + 1) 0 16
  d : Rd R w wr
  s : w.heap.size + 2 ≤ wr.heap.size
section
variable {w wr wr' : World} {R : Nat} {F : Nat → Int} {iv lv dv : Value}
theorem RQ.rd (h : RQ w R F iv lv dv wr) (hd : Rd R wr wr') (hR : R < w.heap.size) : RQ w R F iv lv dv wr' := by
  have hs := h.s
  exact ⟨h.m.block (hd.block _ (by omega) (by omega)), there_block h.th (hd.block _ (by omega) (by omega)), there_block h.z (hd.block _ (by omega) (by omega)), h.d.trans hd, Nat.le_trans hs hd.size⟩
theorem RQ.set {F' : Nat → Int} {iv' lv' dv' v : Value} (h : RQ w R F iv lv dv wr) (k : Nat) (hm : MsgAt (wr.setCell ⟨w.heap.size, k, none⟩ v) w.heap.size F' iv' lv' dv') : RQ w R F' iv' lv' dv' (wr.setCell ⟨w.heap.size, k, none⟩ v) := by
  have hO := (Only.refl w.heap.size wr).setCell (p := ⟨w.heap.size, k, none⟩) rfl v
  exact ⟨hm, there_setW h.th, there_block h.z (hO.block _ (by omega)), h.d.setNew (Nat.le_refl _), by rw [hO.size]; exact h.s⟩
theorem RQ.num (h : RQ w R F iv lv dv wr) (k : Nat) (hk : k < 13) (v : Int) : RQ w R (uW F k v) iv lv dv (wr.setCell ⟨w.heap.size, k, none⟩ (.int (Ytembppihfcclcaa.mk k) v)) := h.set k (h.m.upW k hk v)
theorem RQ.fz (h : RQ w R F iv lv dv wr) (k : Nat) (hk : k < 16) : wr.frozen? ⟨w.heap.size, k, none⟩ = false := by have := (h.th k hk).2; rwa [Nat.zero_add] at this
theorem rq_start (w : World) (R : Nat) (F : Nat → Int) (iv lv dv : Value) : RQ w R F iv lv dv ((w.alloc (Obj.cells (msgL F iv lv dv).toArray 30)).alloc (Obj.cells #[.int .i64 0, .int .i64 0, .int .u16 0, .int .u16 0, .int .u32 0, .int .i64 0, .int .i64 0, .int .i64 0, .int .i64 0, .int .i64 0, .int .i64 0, .int .u32 0, .int .u64 0, .slice none 0 0, .slice none 0 0, .slice none 0 0] 30)) := by
  have hA := msgAt_new F iv lv dv 30 w
  have e : (msgL F iv lv dv).toArray.size = 16 := by rw [List.size_toArray, msgL_len]
  have ht : (w.alloc (Obj.cells (msgL F iv lv dv).toArray 30)).there w.heap.size 0 16 := there_alloc_lit _ _ _ _ (by rw [e]; exact Nat.le_refl _)
  have hk := Below.heap_alloc (w.alloc (Obj.cells (msgL F iv lv dv).toArray 30)) (Obj.cells #[.int .i64 0, .int .i64 0, .int .u16 0, .int .u16 0, .int .u32 0, .int .i64 0, .int .i64 0, .int .i64 0, .int .i64 0, .int .i64 0, .int .i64 0, .int .u32 0, .int .u64 0, .slice none 0 0, .slice none 0 0, .slice none 0 0] 30) w.heap.size (by simp)
  have hz := there_msgZ (w.alloc (Obj.cells (msgL F iv lv dv).toArray 30))
  have hs : (w.alloc (Obj.cells (msgL F iv lv dv).toArray 30)).heap.size = w.heap.size + 1 := by simp
  rw [hs] at hz
  have hB := ((Below.refl w.heap.size w).alloc (Nat.le_refl _) (Obj.cells (msgL F iv lv dv).toArray 30)).alloc (by simp) (Obj.cells #[.int .i64 0, .int .i64 0, .int .u16 0, .int .u16 0, .int .u32 0, .int .i64 0, .int .i64 0, .int .i64 0, .int .i64 0, .int .i64 0, .int .i64 0, .int .u32 0, .int .u64 0, .slice none 0 0, .slice none 0 0, .slice none 0 0] 30)
  exact ⟨hA.block hk, there_block ht hk, hz, Below.rd hB (Nat.le_refl _), by simp⟩
/-- The message goes into the result. -/
theorem RQ.fin (h : RQ w R F iv lv dv wr) : MsgAt (wr.setCells (w.heap.size + 1) 0 (msgL F iv lv dv)) (w.heap.size + 1) F iv lv dv ∧ Rd R w (wr.setCells (w.heap.size + 1) 0 (msgL F iv lv dv)) ∧ RdW (w.heap.size + 1) wr (wr.setCells (w.heap.size + 1) 0 (msgL F iv lv dv)) := by
  have hb := rdW_set (w.heap.size + 1) (msgL F iv lv dv) wr
  exact ⟨msgAt_stored h.z F iv lv dv, ⟨hb.os.trans h.d.os, hb.tape.trans h.d.tape, hb.output.trans h.d.output, Nat.le_trans h.d.size hb.size, fun k hk hr => (hb.block k (Nat.lt_of_lt_of_le hk h.d.size) (by omega)).trans (h.d.block k hk hr)⟩, hb⟩
theorem RG.rdW {R T : Nat} {l : List Int} {bad : Bool} (h : RG wr R l bad) (hb : RdW T wr wr') (hne : R ≠ T) : RG wr' R l bad := h.block (hb.block R h.lt hne)
end
/-- A row of bytes in a block from number B on. -/
def BytesN (w : World) (B : Nat) (v : Value) (bs : List Int) : Prop := ∃ a cap, v = .slice a bs.length cap ∧ bs.length ≤ cap ∧ cap ≤ maxLen ∧ (0 < bs.length → ∃ b o, a = some ⟨b, o, none⟩ ∧ B ≤ b ∧ b < w.heap.size ∧ BytesAt w b o bs)
theorem BytesN.bytes {w : World} {B : Nat} {v : Value} {bs : List Int} (h : BytesN w B v bs) : BytesV w v bs := by
  obtain ⟨a, cap, e, h1, h2, h3⟩ := h
  refine ⟨a, cap, e, h1, h2, fun h0 => ?_⟩
  obtain ⟨b, o, e2, -, hb, hc⟩ := h3 h0
  exact ⟨b, o, e2, hb, hc⟩
theorem BytesN.rdW {w w' : World} {B R : Nat} {v : Value} {bs : List Int} (h : BytesN w B v bs) (hb : RdW R w w') (hR : R < B) : BytesN w' B v bs := by
  obtain ⟨a, cap, e, h1, h2, h3⟩ := h
  refine ⟨a, cap, e, h1, h2, fun h0 => ?_⟩
  obtain ⟨b, o, e2, hB, hlt, hc⟩ := h3 h0
  exact ⟨b, o, e2, hB, Nat.lt_of_lt_of_le hlt hb.size, hc.block (hb.block b hlt (by omega))⟩
theorem BytesN.mono {w : World} {B B' : Nat} {v : Value} {bs : List Int} (h : BytesN w B v bs) (hB : B' ≤ B) : BytesN w B' v bs := by
  obtain ⟨a, cap, e, h1, h2, h3⟩ := h
  refine ⟨a, cap, e, h1, h2, fun h0 => ?_⟩
  obtain ⟨b, o, e2, hb, hlt, hc⟩ := h3 h0
  exact ⟨b, o, e2, by omega, hlt, hc⟩
theorem Rd.w {R : Nat} {w w' : World} (h : Rd R w w') : RdW R w w' := ⟨h.os, h.tape, h.output, h.size, h.block⟩
theorem RdW.r {R : Nat} {w w' : World} (h : RdW R w w') : Rd R w w' := ⟨h.os, h.tape, h.output, h.size, h.block⟩
theorem bytesWorld_rd (R : Nat) (w : World) (s : ByteArray) : Rd R w (Lib.bytesWorld w 5 s) := ⟨rfl, rfl, rfl, by rw [Lib.bytesWorld_size]; omega, fun k hk _ => Lib.bytesWorld_at_old w 5 s k hk⟩
theorem bytesWorld_row (w : World) (bs : List Int) (hby : ByteL bs) (hl : bs.length ≤ 1000000) : BytesN (Lib.bytesWorld w 5 (strOfNums bs)) w.heap.size (.slice (some ⟨w.heap.size, 0, none⟩) bs.length (grownCap w bs.length 0 5)) bs := by
  refine ⟨_, _, rfl, grownCap_ge _ _ _ _, grownCap_le_maxLen _ _ _ _ (by unfold maxLen; omega), fun _ => ⟨w.heap.size, 0, rfl, Nat.le_refl _, by rw [Lib.bytesWorld_size]; omega, fun i hi => ?_⟩⟩
  have hs : i < (strOfNums bs).size := by rw [strOfNums_size]; exact hi
  rw [Nat.zero_add, Lib.bytesWorld_cell w 5 (strOfNums bs) i hs]
  have hg := str_get bs hby i hs
  have e : (strOfNums bs).data.toList.getD i 0 = (strOfNums bs)[i]'hs := by
    rw [List.getD_eq_getElem?_getD, List.getElem?_eq_getElem (by simpa using hs)]
    rfl
  rw [e, hg]
  rfl
theorem conv_str (w : World) (bs : List Int) : (convert 9 28 (.string (strOfNums bs))).run Try.prog w = .ok (.slice (some ⟨w.heap.size, 0, none⟩) bs.length (grownCap w bs.length 0 5)) (Lib.bytesWorld w 5 (strOfNums bs)) := by
  have := Lib.run_convert_string_bytes w 9 28 5 (strOfNums bs) Try.underlying9 Try.underlying28 Try.underlying5
  rwa [strOfNums_size] at this
set_option maxRecDepth 100000 in
set_option maxHeartbeats 8000000 in
theorem readNum_any (bs : List Int) (j : Nat) (hj : j < 8) (R : Nat) (F : Nat → Int) (ia la da : Option Addr) (ni ic nl lc nd dc : Nat) (l : List Int) (bad : Bool) (w : World) (hr : RG w R l bad) (ht : TrkM bs (gPs bs j) l bad) (hT : bad = false → bs.length < gPs bs j + wdt j → ¬ POk bs) :
    Calls Try.prog 47 #[.agg (msgL F (.slice ia ni ic) (.slice la nl lc) (.slice da nd dc)).toArray, .pointer (some ⟨R, 0, none⟩), .int .u8 (ltr j : Nat)] w fun e w' => ∃ v l' bad', e = .returned (.agg (msgL (uW F (5 + j) v) (.slice ia ni ic) (.slice la nl lc) (.slice da nd dc)).toArray) ∧ RG w' R l' bad' ∧ TrkM bs (gPs bs j + wdt j) l' bad' ∧ (bad' = false → bad = false ∧ v = leV bs (gPs bs j) (wdt j)) ∧ Rd R w w' := by
  have HQ0 := Lib.hid (rq_start w R F (.slice ia ni ic) (.slice la nl lc) (.slice da nd dc))
  have hR := hr.lt
  have HRG := Lib.hid ((hr.block (Below.heap_alloc w (Obj.cells (msgL F (.slice ia ni ic) (.slice la nl lc) (.slice da nd dc)).toArray 30) R hr.lt)).block (Below.heap_alloc _ (Obj.cells #[.int .i64 0, .int .i64 0, .int .u16 0, .int .u16 0, .int .u32 0, .int .i64 0, .int .i64 0, .int .i64 0, .int .i64 0, .int .i64 0, .int .i64 0, .int .u32 0, .int .u64 0, .slice none 0 0, .slice none 0 0, .slice none 0 0] 30) R (by simp; omega)))
  have HT := Lib.hid ht
  have HNo := Lib.hid hT
  clear hr ht hT
  rcases (by omega : j = 0 ∨ j = 1 ∨ j = 2 ∨ j = 3 ∨ j = 4 ∨ j = 5 ∨ j = 6 ∨ j = 7) with rfl | rfl | rfl | rfl | rfl | rfl | rfl | rfl
  · have hl : ((ltr 0 : Nat) : Int) = 115 := rfl
    rw [hl]
    clear hl
    go_enter Try.func47, Try.ntmps47
    go_wp2_with fail
    generalize (w.alloc (Obj.cells (msgL F (.slice ia ni ic) (.slice la nl lc) (.slice da nd dc)).toArray 30)).alloc (Obj.cells #[.int .i64 0, .int .i64 0, .int .u16 0, .int .u16 0, .int .u32 0, .int .i64 0, .int .i64 0, .int .i64 0, .int .i64 0, .int .i64 0, .int .i64 0, .int .u32 0, .int .u64 0, .slice none 0 0, .slice none 0 0, .slice none 0 0] 30) = w1 at *
    refine (rInt_trkM R bs l bad (gPs bs 0) 1 (by decide) w1 HRG.out HT.out HNo.out).mono ?_
    rintro e w2 ⟨v, l', bad', rfl, hr, ht, hg, hv, hd⟩
    have hv' : 0 ≤ v ∧ v < 256 := hv
    have hQ1 := HQ0.out.rd hd hR
    have cc := hQ1.m.c5
    have ff := hQ1.fz 5 (by decide)
    have HQ := Lib.hid (hQ1.num 5 (by decide) v)
    have HRG2 := Lib.hid (hr.block (setCell_block (w := w2) (b := w.heap.size) (j := 5) (u := .int (Ytembppihfcclcaa.mk 5) v) (by omega)))
    have HG := Lib.hid hg
    have HT2 := Lib.hid ht
    clear hr ht hg hd hv hQ1 HQ0 HRG HT HNo
    have HZ : Hid ((w2.setCell ⟨w.heap.size, 5, none⟩ (.int (Ytembppihfcclcaa.mk 5) v)).there (w.heap.size + 1) 0 (msgL (uW F 5 v) (.slice ia ni ic) (.slice la nl lc) (.slice da nd dc)).toArray.size) := Lib.hid (msg_there _ _ _ _ HQ.out.z)
    go_wp2_with (first | (refine wpList_load_g (op := ⟨some 125, _, _, _, _, _⟩) (by rfl) 30 _ rfl w.heap.size 0 rfl _ _ HQ.out.m.range Try.underlying30 rfl (size_msg _ _ _ _) ?_) | (refine wpList_store_mid (op := ⟨none, Op.store 30 (.tmp 6) (.tmp 125), _, _, _, _⟩) rfl 30 _ _ rfl (w.heap.size + 1) 0 (msgL (uW F 5 v) (.slice ia ni ic) (.slice la nl lc) (.slice da nd dc)).toArray rfl rfl HZ.out (by have e : (msgL (uW F 5 v) (.slice ia ni ic) (.slice la nl lc) (.slice da nd dc)).toArray.size = (msgL (uW F 5 v) (.slice ia ni ic) (.slice la nl lc) (.slice da nd dc)).length := List.size_toArray; rw [e]; exact size_msg _ _ _ _) (msg_one _ _ _ _ _ _ _ _ _ _) ?_))
    obtain ⟨hm, hrd, hrw⟩ := HQ.out.fin
    refine bodyPost_ret (results_rd _ _ (w.heap.size + 1) rfl hm) rfl ?_
    exact ⟨v, l', bad', rfl, HRG2.out.rdW hrw (by omega), HT2.out, HG.out, hrd⟩
  · have hl : ((ltr 1 : Nat) : Int) = 103 := rfl
    rw [hl]
    clear hl
    go_enter Try.func47, Try.ntmps47
    go_wp2_with fail
    generalize (w.alloc (Obj.cells (msgL F (.slice ia ni ic) (.slice la nl lc) (.slice da nd dc)).toArray 30)).alloc (Obj.cells #[.int .i64 0, .int .i64 0, .int .u16 0, .int .u16 0, .int .u32 0, .int .i64 0, .int .i64 0, .int .i64 0, .int .i64 0, .int .i64 0, .int .i64 0, .int .u32 0, .int .u64 0, .slice none 0 0, .slice none 0 0, .slice none 0 0] 30) = w1 at *
    refine (rInt_trkM R bs l bad (gPs bs 1) 2 (by decide) w1 HRG.out HT.out HNo.out).mono ?_
    rintro e w2 ⟨v, l', bad', rfl, hr, ht, hg, hv, hd⟩
    have hv' : 0 ≤ v ∧ v < 65536 := hv
    have hQ1 := HQ0.out.rd hd hR
    have cc := hQ1.m.c6
    have ff := hQ1.fz 6 (by decide)
    have HQ := Lib.hid (hQ1.num 6 (by decide) v)
    have HRG2 := Lib.hid (hr.block (setCell_block (w := w2) (b := w.heap.size) (j := 6) (u := .int (Ytembppihfcclcaa.mk 6) v) (by omega)))
    have HG := Lib.hid hg
    have HT2 := Lib.hid ht
    clear hr ht hg hd hv hQ1 HQ0 HRG HT HNo
    have HZ : Hid ((w2.setCell ⟨w.heap.size, 6, none⟩ (.int (Ytembppihfcclcaa.mk 6) v)).there (w.heap.size + 1) 0 (msgL (uW F 6 v) (.slice ia ni ic) (.slice la nl lc) (.slice da nd dc)).toArray.size) := Lib.hid (msg_there _ _ _ _ HQ.out.z)
    go_wp2_with (first | (refine wpList_load_g (op := ⟨some 125, _, _, _, _, _⟩) (by rfl) 30 _ rfl w.heap.size 0 rfl _ _ HQ.out.m.range Try.underlying30 rfl (size_msg _ _ _ _) ?_) | (refine wpList_store_mid (op := ⟨none, Op.store 30 (.tmp 6) (.tmp 125), _, _, _, _⟩) rfl 30 _ _ rfl (w.heap.size + 1) 0 (msgL (uW F 6 v) (.slice ia ni ic) (.slice la nl lc) (.slice da nd dc)).toArray rfl rfl HZ.out (by have e : (msgL (uW F 6 v) (.slice ia ni ic) (.slice la nl lc) (.slice da nd dc)).toArray.size = (msgL (uW F 6 v) (.slice ia ni ic) (.slice la nl lc) (.slice da nd dc)).length := List.size_toArray; rw [e]; exact size_msg _ _ _ _) (msg_one _ _ _ _ _ _ _ _ _ _) ?_))
    obtain ⟨hm, hrd, hrw⟩ := HQ.out.fin
    refine bodyPost_ret (results_rd _ _ (w.heap.size + 1) rfl hm) rfl ?_
    exact ⟨v, l', bad', rfl, HRG2.out.rdW hrw (by omega), HT2.out, HG.out, hrd⟩
  · have hl : ((ltr 2 : Nat) : Int) = 102 := rfl
    rw [hl]
    clear hl
    go_enter Try.func47, Try.ntmps47
    go_wp2_with fail
    generalize (w.alloc (Obj.cells (msgL F (.slice ia ni ic) (.slice la nl lc) (.slice da nd dc)).toArray 30)).alloc (Obj.cells #[.int .i64 0, .int .i64 0, .int .u16 0, .int .u16 0, .int .u32 0, .int .i64 0, .int .i64 0, .int .i64 0, .int .i64 0, .int .i64 0, .int .i64 0, .int .u32 0, .int .u64 0, .slice none 0 0, .slice none 0 0, .slice none 0 0] 30) = w1 at *
    refine (rInt_trkM R bs l bad (gPs bs 2) 4 (by decide) w1 HRG.out HT.out HNo.out).mono ?_
    rintro e w2 ⟨v, l', bad', rfl, hr, ht, hg, hv, hd⟩
    have hv' : 0 ≤ v ∧ v < 4294967296 := hv
    have hQ1 := HQ0.out.rd hd hR
    have cc := hQ1.m.c7
    have ff := hQ1.fz 7 (by decide)
    have HQ := Lib.hid (hQ1.num 7 (by decide) v)
    have HRG2 := Lib.hid (hr.block (setCell_block (w := w2) (b := w.heap.size) (j := 7) (u := .int (Ytembppihfcclcaa.mk 7) v) (by omega)))
    have HG := Lib.hid hg
    have HT2 := Lib.hid ht
    clear hr ht hg hd hv hQ1 HQ0 HRG HT HNo
    have HZ : Hid ((w2.setCell ⟨w.heap.size, 7, none⟩ (.int (Ytembppihfcclcaa.mk 7) v)).there (w.heap.size + 1) 0 (msgL (uW F 7 v) (.slice ia ni ic) (.slice la nl lc) (.slice da nd dc)).toArray.size) := Lib.hid (msg_there _ _ _ _ HQ.out.z)
    go_wp2_with (first | (refine wpList_load_g (op := ⟨some 125, _, _, _, _, _⟩) (by rfl) 30 _ rfl w.heap.size 0 rfl _ _ HQ.out.m.range Try.underlying30 rfl (size_msg _ _ _ _) ?_) | (refine wpList_store_mid (op := ⟨none, Op.store 30 (.tmp 6) (.tmp 125), _, _, _, _⟩) rfl 30 _ _ rfl (w.heap.size + 1) 0 (msgL (uW F 7 v) (.slice ia ni ic) (.slice la nl lc) (.slice da nd dc)).toArray rfl rfl HZ.out (by have e : (msgL (uW F 7 v) (.slice ia ni ic) (.slice la nl lc) (.slice da nd dc)).toArray.size = (msgL (uW F 7 v) (.slice ia ni ic) (.slice la nl lc) (.slice da nd dc)).length := List.size_toArray; rw [e]; exact size_msg _ _ _ _) (msg_one _ _ _ _ _ _ _ _ _ _) ?_))
    obtain ⟨hm, hrd, hrw⟩ := HQ.out.fin
    refine bodyPost_ret (results_rd _ _ (w.heap.size + 1) rfl hm) rfl ?_
    exact ⟨v, l', bad', rfl, HRG2.out.rdW hrw (by omega), HT2.out, HG.out, hrd⟩
  · have hl : ((ltr 3 : Nat) : Int) = 99 := rfl
    rw [hl]
    clear hl
    go_enter Try.func47, Try.ntmps47
    go_wp2_with fail
    generalize (w.alloc (Obj.cells (msgL F (.slice ia ni ic) (.slice la nl lc) (.slice da nd dc)).toArray 30)).alloc (Obj.cells #[.int .i64 0, .int .i64 0, .int .u16 0, .int .u16 0, .int .u32 0, .int .i64 0, .int .i64 0, .int .i64 0, .int .i64 0, .int .i64 0, .int .i64 0, .int .u32 0, .int .u64 0, .slice none 0 0, .slice none 0 0, .slice none 0 0] 30) = w1 at *
    refine (rInt_trkM R bs l bad (gPs bs 3) 1 (by decide) w1 HRG.out HT.out HNo.out).mono ?_
    rintro e w2 ⟨v, l', bad', rfl, hr, ht, hg, hv, hd⟩
    have hv' : 0 ≤ v ∧ v < 256 := hv
    have hQ1 := HQ0.out.rd hd hR
    have cc := hQ1.m.c8
    have ff := hQ1.fz 8 (by decide)
    have HQ := Lib.hid (hQ1.num 8 (by decide) v)
    have HRG2 := Lib.hid (hr.block (setCell_block (w := w2) (b := w.heap.size) (j := 8) (u := .int (Ytembppihfcclcaa.mk 8) v) (by omega)))
    have HG := Lib.hid hg
    have HT2 := Lib.hid ht
    clear hr ht hg hd hv hQ1 HQ0 HRG HT HNo
    have HZ : Hid ((w2.setCell ⟨w.heap.size, 8, none⟩ (.int (Ytembppihfcclcaa.mk 8) v)).there (w.heap.size + 1) 0 (msgL (uW F 8 v) (.slice ia ni ic) (.slice la nl lc) (.slice da nd dc)).toArray.size) := Lib.hid (msg_there _ _ _ _ HQ.out.z)
    go_wp2_with (first | (refine wpList_load_g (op := ⟨some 125, _, _, _, _, _⟩) (by rfl) 30 _ rfl w.heap.size 0 rfl _ _ HQ.out.m.range Try.underlying30 rfl (size_msg _ _ _ _) ?_) | (refine wpList_store_mid (op := ⟨none, Op.store 30 (.tmp 6) (.tmp 125), _, _, _, _⟩) rfl 30 _ _ rfl (w.heap.size + 1) 0 (msgL (uW F 8 v) (.slice ia ni ic) (.slice la nl lc) (.slice da nd dc)).toArray rfl rfl HZ.out (by have e : (msgL (uW F 8 v) (.slice ia ni ic) (.slice la nl lc) (.slice da nd dc)).toArray.size = (msgL (uW F 8 v) (.slice ia ni ic) (.slice la nl lc) (.slice da nd dc)).length := List.size_toArray; rw [e]; exact size_msg _ _ _ _) (msg_one _ _ _ _ _ _ _ _ _ _) ?_))
    obtain ⟨hm, hrd, hrw⟩ := HQ.out.fin
    refine bodyPost_ret (results_rd _ _ (w.heap.size + 1) rfl hm) rfl ?_
    exact ⟨v, l', bad', rfl, HRG2.out.rdW hrw (by omega), HT2.out, HG.out, hrd⟩
  · have hl : ((ltr 4 : Nat) : Int) = 110 := rfl
    rw [hl]
    clear hl
    go_enter Try.func47, Try.ntmps47
    go_wp2_with fail
    generalize (w.alloc (Obj.cells (msgL F (.slice ia ni ic) (.slice la nl lc) (.slice da nd dc)).toArray 30)).alloc (Obj.cells #[.int .i64 0, .int .i64 0, .int .u16 0, .int .u16 0, .int .u32 0, .int .i64 0, .int .i64 0, .int .i64 0, .int .i64 0, .int .i64 0, .int .i64 0, .int .u32 0, .int .u64 0, .slice none 0 0, .slice none 0 0, .slice none 0 0] 30) = w1 at *
    refine (rInt_trkM R bs l bad (gPs bs 4) 2 (by decide) w1 HRG.out HT.out HNo.out).mono ?_
    rintro e w2 ⟨v, l', bad', rfl, hr, ht, hg, hv, hd⟩
    have hv' : 0 ≤ v ∧ v < 65536 := hv
    have hQ1 := HQ0.out.rd hd hR
    have cc := hQ1.m.c9
    have ff := hQ1.fz 9 (by decide)
    have HQ := Lib.hid (hQ1.num 9 (by decide) v)
    have HRG2 := Lib.hid (hr.block (setCell_block (w := w2) (b := w.heap.size) (j := 9) (u := .int (Ytembppihfcclcaa.mk 9) v) (by omega)))
    have HG := Lib.hid hg
    have HT2 := Lib.hid ht
    clear hr ht hg hd hv hQ1 HQ0 HRG HT HNo
    have HZ : Hid ((w2.setCell ⟨w.heap.size, 9, none⟩ (.int (Ytembppihfcclcaa.mk 9) v)).there (w.heap.size + 1) 0 (msgL (uW F 9 v) (.slice ia ni ic) (.slice la nl lc) (.slice da nd dc)).toArray.size) := Lib.hid (msg_there _ _ _ _ HQ.out.z)
    go_wp2_with (first | (refine wpList_load_g (op := ⟨some 125, _, _, _, _, _⟩) (by rfl) 30 _ rfl w.heap.size 0 rfl _ _ HQ.out.m.range Try.underlying30 rfl (size_msg _ _ _ _) ?_) | (refine wpList_store_mid (op := ⟨none, Op.store 30 (.tmp 6) (.tmp 125), _, _, _, _⟩) rfl 30 _ _ rfl (w.heap.size + 1) 0 (msgL (uW F 9 v) (.slice ia ni ic) (.slice la nl lc) (.slice da nd dc)).toArray rfl rfl HZ.out (by have e : (msgL (uW F 9 v) (.slice ia ni ic) (.slice la nl lc) (.slice da nd dc)).toArray.size = (msgL (uW F 9 v) (.slice ia ni ic) (.slice la nl lc) (.slice da nd dc)).length := List.size_toArray; rw [e]; exact size_msg _ _ _ _) (msg_one _ _ _ _ _ _ _ _ _ _) ?_))
    obtain ⟨hm, hrd, hrw⟩ := HQ.out.fin
    refine bodyPost_ret (results_rd _ _ (w.heap.size + 1) rfl hm) rfl ?_
    exact ⟨v, l', bad', rfl, HRG2.out.rdW hrw (by omega), HT2.out, HG.out, hrd⟩
  · have hl : ((ltr 5 : Nat) : Int) = 111 := rfl
    rw [hl]
    clear hl
    go_enter Try.func47, Try.ntmps47
    go_wp2_with fail
    generalize (w.alloc (Obj.cells (msgL F (.slice ia ni ic) (.slice la nl lc) (.slice da nd dc)).toArray 30)).alloc (Obj.cells #[.int .i64 0, .int .i64 0, .int .u16 0, .int .u16 0, .int .u32 0, .int .i64 0, .int .i64 0, .int .i64 0, .int .i64 0, .int .i64 0, .int .i64 0, .int .u32 0, .int .u64 0, .slice none 0 0, .slice none 0 0, .slice none 0 0] 30) = w1 at *
    refine (rInt_trkM R bs l bad (gPs bs 5) 2 (by decide) w1 HRG.out HT.out HNo.out).mono ?_
    rintro e w2 ⟨v, l', bad', rfl, hr, ht, hg, hv, hd⟩
    have hv' : 0 ≤ v ∧ v < 65536 := hv
    have hQ1 := HQ0.out.rd hd hR
    have cc := hQ1.m.c10
    have ff := hQ1.fz 10 (by decide)
    have HQ := Lib.hid (hQ1.num 10 (by decide) v)
    have HRG2 := Lib.hid (hr.block (setCell_block (w := w2) (b := w.heap.size) (j := 10) (u := .int (Ytembppihfcclcaa.mk 10) v) (by omega)))
    have HG := Lib.hid hg
    have HT2 := Lib.hid ht
    clear hr ht hg hd hv hQ1 HQ0 HRG HT HNo
    have HZ : Hid ((w2.setCell ⟨w.heap.size, 10, none⟩ (.int (Ytembppihfcclcaa.mk 10) v)).there (w.heap.size + 1) 0 (msgL (uW F 10 v) (.slice ia ni ic) (.slice la nl lc) (.slice da nd dc)).toArray.size) := Lib.hid (msg_there _ _ _ _ HQ.out.z)
    go_wp2_with (first | (refine wpList_load_g (op := ⟨some 125, _, _, _, _, _⟩) (by rfl) 30 _ rfl w.heap.size 0 rfl _ _ HQ.out.m.range Try.underlying30 rfl (size_msg _ _ _ _) ?_) | (refine wpList_store_mid (op := ⟨none, Op.store 30 (.tmp 6) (.tmp 125), _, _, _, _⟩) rfl 30 _ _ rfl (w.heap.size + 1) 0 (msgL (uW F 10 v) (.slice ia ni ic) (.slice la nl lc) (.slice da nd dc)).toArray rfl rfl HZ.out (by have e : (msgL (uW F 10 v) (.slice ia ni ic) (.slice la nl lc) (.slice da nd dc)).toArray.size = (msgL (uW F 10 v) (.slice ia ni ic) (.slice la nl lc) (.slice da nd dc)).length := List.size_toArray; rw [e]; exact size_msg _ _ _ _) (msg_one _ _ _ _ _ _ _ _ _ _) ?_))
    obtain ⟨hm, hrd, hrw⟩ := HQ.out.fin
    refine bodyPost_ret (results_rd _ _ (w.heap.size + 1) rfl hm) rfl ?_
    exact ⟨v, l', bad', rfl, HRG2.out.rdW hrw (by omega), HT2.out, HG.out, hrd⟩
  · have hl : ((ltr 6 : Nat) : Int) = 98 := rfl
    rw [hl]
    clear hl
    go_enter Try.func47, Try.ntmps47
    go_wp2_with fail
    generalize (w.alloc (Obj.cells (msgL F (.slice ia ni ic) (.slice la nl lc) (.slice da nd dc)).toArray 30)).alloc (Obj.cells #[.int .i64 0, .int .i64 0, .int .u16 0, .int .u16 0, .int .u32 0, .int .i64 0, .int .i64 0, .int .i64 0, .int .i64 0, .int .i64 0, .int .i64 0, .int .u32 0, .int .u64 0, .slice none 0 0, .slice none 0 0, .slice none 0 0] 30) = w1 at *
    refine (rNum_trkM R bs l bad (gPs bs 6) 4 (by decide) w1 HRG.out HT.out HNo.out).mono ?_
    rintro e w2 ⟨v, l', bad', rfl, hr, ht, hg, hv, hd⟩
    have hv' : 0 ≤ v ∧ v < 4294967296 := hv
    have hvb : IntKind.u32.wrap v = v := by simp [IntKind.wrap, IntKind.bits, IntKind.signed]; omega
    have hQ1 := HQ0.out.rd hd hR
    have cc := hQ1.m.c11
    have ff := hQ1.fz 11 (by decide)
    have HQ := Lib.hid (hQ1.num 11 (by decide) v)
    have HRG2 := Lib.hid (hr.block (setCell_block (w := w2) (b := w.heap.size) (j := 11) (u := .int (Ytembppihfcclcaa.mk 11) v) (by omega)))
    have HG := Lib.hid hg
    have HT2 := Lib.hid ht
    clear hr ht hg hd hv hQ1 HQ0 HRG HT HNo
    have HZ : Hid ((w2.setCell ⟨w.heap.size, 11, none⟩ (.int (Ytembppihfcclcaa.mk 11) v)).there (w.heap.size + 1) 0 (msgL (uW F 11 v) (.slice ia ni ic) (.slice la nl lc) (.slice da nd dc)).toArray.size) := Lib.hid (msg_there _ _ _ _ HQ.out.z)
    go_wp2_with (first | (refine wpList_load_g (op := ⟨some 125, _, _, _, _, _⟩) (by rfl) 30 _ rfl w.heap.size 0 rfl _ _ HQ.out.m.range Try.underlying30 rfl (size_msg _ _ _ _) ?_) | (refine wpList_store_mid (op := ⟨none, Op.store 30 (.tmp 6) (.tmp 125), _, _, _, _⟩) rfl 30 _ _ rfl (w.heap.size + 1) 0 (msgL (uW F 11 v) (.slice ia ni ic) (.slice la nl lc) (.slice da nd dc)).toArray rfl rfl HZ.out (by have e : (msgL (uW F 11 v) (.slice ia ni ic) (.slice la nl lc) (.slice da nd dc)).toArray.size = (msgL (uW F 11 v) (.slice ia ni ic) (.slice la nl lc) (.slice da nd dc)).length := List.size_toArray; rw [e]; exact size_msg _ _ _ _) (msg_one _ _ _ _ _ _ _ _ _ _) ?_))
    obtain ⟨hm, hrd, hrw⟩ := HQ.out.fin
    refine bodyPost_ret (results_rd _ _ (w.heap.size + 1) rfl hm) rfl ?_
    exact ⟨v, l', bad', rfl, HRG2.out.rdW hrw (by omega), HT2.out, HG.out, hrd⟩
  · have hl : ((ltr 7 : Nat) : Int) = 109 := rfl
    rw [hl]
    clear hl
    go_enter Try.func47, Try.ntmps47
    go_wp2_with fail
    generalize (w.alloc (Obj.cells (msgL F (.slice ia ni ic) (.slice la nl lc) (.slice da nd dc)).toArray 30)).alloc (Obj.cells #[.int .i64 0, .int .i64 0, .int .u16 0, .int .u16 0, .int .u32 0, .int .i64 0, .int .i64 0, .int .i64 0, .int .i64 0, .int .i64 0, .int .i64 0, .int .u32 0, .int .u64 0, .slice none 0 0, .slice none 0 0, .slice none 0 0] 30) = w1 at *
    refine (rNum_trkM R bs l bad (gPs bs 7) 8 (by decide) w1 HRG.out HT.out HNo.out).mono ?_
    rintro e w2 ⟨v, l', bad', rfl, hr, ht, hg, hv, hd⟩
    have hv' : 0 ≤ v ∧ v < 18446744073709551616 := hv
    have hQ1 := HQ0.out.rd hd hR
    have cc := hQ1.m.c12
    have ff := hQ1.fz 12 (by decide)
    have HQ := Lib.hid (hQ1.num 12 (by decide) v)
    have HRG2 := Lib.hid (hr.block (setCell_block (w := w2) (b := w.heap.size) (j := 12) (u := .int (Ytembppihfcclcaa.mk 12) v) (by omega)))
    have HG := Lib.hid hg
    have HT2 := Lib.hid ht
    clear hr ht hg hd hv hQ1 HQ0 HRG HT HNo
    have HZ : Hid ((w2.setCell ⟨w.heap.size, 12, none⟩ (.int (Ytembppihfcclcaa.mk 12) v)).there (w.heap.size + 1) 0 (msgL (uW F 12 v) (.slice ia ni ic) (.slice la nl lc) (.slice da nd dc)).toArray.size) := Lib.hid (msg_there _ _ _ _ HQ.out.z)
    go_wp2_with (first | (refine wpList_load_g (op := ⟨some 125, _, _, _, _, _⟩) (by rfl) 30 _ rfl w.heap.size 0 rfl _ _ HQ.out.m.range Try.underlying30 rfl (size_msg _ _ _ _) ?_) | (refine wpList_store_mid (op := ⟨none, Op.store 30 (.tmp 6) (.tmp 125), _, _, _, _⟩) rfl 30 _ _ rfl (w.heap.size + 1) 0 (msgL (uW F 12 v) (.slice ia ni ic) (.slice la nl lc) (.slice da nd dc)).toArray rfl rfl HZ.out (by have e : (msgL (uW F 12 v) (.slice ia ni ic) (.slice la nl lc) (.slice da nd dc)).toArray.size = (msgL (uW F 12 v) (.slice ia ni ic) (.slice la nl lc) (.slice da nd dc)).length := List.size_toArray; rw [e]; exact size_msg _ _ _ _) (msg_one _ _ _ _ _ _ _ _ _ _) ?_))
    obtain ⟨hm, hrd, hrw⟩ := HQ.out.fin
    refine bodyPost_ret (results_rd _ _ (w.heap.size + 1) rfl hm) rfl ?_
    exact ⟨v, l', bad', rfl, HRG2.out.rdW hrw (by omega), HT2.out, HG.out, hrd⟩
end Go.Proofs.Ytembppihfcclcaa
