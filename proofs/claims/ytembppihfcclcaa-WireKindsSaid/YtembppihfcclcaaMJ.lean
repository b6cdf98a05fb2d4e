/-
  Wire: the reader's log.
-/
import Derived.Test.YtembppihfcclcaaMI
namespace Go.Proofs.Ytembppihfcclcaa
set_option linter.unusedVariables false
open Go.ChangeShapes Go.WideShapes Go.ChangeAt Go.RowKit

set_option linter.unusedSimpArgs false
/-- The bytes of an entry that begins at place i, behind its length. -/
def eLen (bs : List Int) (i : Nat) : Nat := (leV bs i 2).toNat
def eBy (bs : List Int) (i : Nat) : List Int := (bs.drop (i + 2)).take (eLen bs i)
def LogQ (bs : List Int) (R b o C i : Nat) (w : World) (e : Ending) (w' : World) : Prop :=
  (i + 2 + eLen bs i ≤ bs.length ∧ OkG (eBy bs i) ∧ (∃ sv, e = .returned (.agg (entL (gFr (eBy bs i)) sv (gI (eBy bs i))).toArray) ∧ OwnE w' w.heap.size sv (gN (eBy bs i)) (gE (eBy bs i))) ∧ RwAt w' R b o bs.length C (i + 2 + eLen bs i) ∧ RdW R w w') ∨
  ((bs.length < i + 2 + eLen bs i ∨ ¬ OkG (eBy bs i)) ∧ e = .panicked wrongW ∧ RdW R w w')
theorem results_log (tmps : Array Value) (w : World) (T2 : Nat) (h2 : tmps.getD 2 undef = .pointer (some ⟨T2, 0, none⟩)) (fr : Int) (sv : Value) (I : Nat → Int) (he : EntAt w T2 0 fr sv I) :
    (results Try.f59 tmps).run Try.prog w = .ok (.agg (entL fr sv I).toArray) w := by
  have hl := run_loadVar_mid (P := Try.prog) w T2 0 37 (entL fr sv I) _ he.range Try.underlying37 rfl (size_ent fr sv I)
  have h2' : tmps[2]?.getD undef = .pointer (some ⟨T2, 0, none⟩) := by simpa using h2
  simp [results, Try.results59, h2', asAddr, hl]
theorem eBy_len {bs : List Int} {i : Nat} (h : i + 2 + eLen bs i ≤ bs.length) : (eBy bs i).length = eLen bs i := by
  unfold eBy
  rw [List.length_take, List.length_drop]
  omega
theorem eBy_by {bs : List Int} (h : ByteL bs) (i : Nat) : ByteL (eBy bs i) := by
  rw [byteL_iff] at h ⊢
  intro x hx
  exact h x (List.mem_of_mem_drop (List.mem_of_mem_take hx))
theorem eBy_at {w : World} {b o : Nat} {bs : List Int} {i : Nat} (hb : BytesAt w b o bs) (h : i + 2 + eLen bs i ≤ bs.length) : BytesAt w b (o + (i + 2)) (eBy bs i) := by
  intro j hj
  rw [eBy_len h] at hj
  have := hb (i + 2 + j) (by omega)
  rw [show o + (i + 2) + j = o + (i + 2 + j) by omega, this]
  unfold eBy
  rw [List.getD_eq_getElem?_getD, List.getD_eq_getElem?_getD, List.getElem?_take, if_pos hj, List.getElem?_drop]
theorem rdW_setCells {R : Nat} {w w' : World} (h : RdW R w w') (T : Nat) (hT : w.heap.size ≤ T) (vs : List Value) : RdW R w (w'.setCells T 0 vs) := by
  have hb := below_setCells (B := T) T (Nat.le_refl _) vs 0 (Below.refl T w')
  exact ⟨hb.os.trans h.os, hb.tape.trans h.tape, hb.output.trans h.output, Nat.le_trans h.size hb.size, fun k hk hR => (hb.block k (by omega)).trans (h.block k hk hR)⟩
theorem OwnE.stored {w : World} {B n T : Nat} {sv : Value} {E : Nat → Nat → Int} (h : OwnE w B sv n E) (hT : T < B) (vs : List Value) : OwnE (w.setCells T 0 vs) B sv n E := by
  have hb := below_setCells (B := T) T (Nat.le_refl _) vs 0 (Below.refl T w)
  refine World.ownsRow.kept (row := some T) h ⟨hb.os, hb.tape, hb.output, hb.size, fun k hk hne => setCells_other T k (fun e => hne (by rw [e])) vs 0 w⟩ ?_
  cases hv : sv.ownBlock with
  | none => exact Or.inl rfl
  | some g => exact Or.inr (fun e => by have := (World.ownsRow.lt h g hv).1; injection e with e; omega)
set_option maxRecDepth 100000 in
set_option maxHeartbeats 4000000 in
theorem log_any (R b o C i : Nat) (bs : List Int) (w : World) (hby : ByteL bs) (hr : RwAt w R b o bs.length C i) (hb : BytesAt w b o bs) (hbl : b < w.heap.size) (hRb : b ≠ R) :
    Calls Try.prog 59 #[.pointer (some ⟨R, 0, none⟩)] w (LogQ bs R b o C i w) := by
  have HBY := Lib.hid hby
  have hB0 := (Below.refl w.heap.size w).alloc (Nat.le_refl _) (Obj.cells #[.int .i64 0, .slice none 0 0, .int .i8 0, .int .i8 0, .int .u8 0, .int .i8 0, .int .i8 0, .int .u8 0, .int .i8 0, .int .i8 0, .int .u8 0, .int .i8 0, .int .i8 0, .int .u8 0, .int .i8 0, .int .i8 0, .int .u8 0, .int .i8 0, .int .i8 0, .int .u8 0, .int .i8 0, .int .i8 0, .int .u8 0, .int .i8 0, .int .i8 0, .int .u8 0] 37)
  have hRl := hr.lt
  have HR := Lib.hid (hr.block (hB0.block R hRl))
  have HB := Lib.hid (hb.block (hB0.block b hbl))
  have HD : Hid (RdW R w (w.alloc (Obj.cells #[.int .i64 0, .slice none 0 0, .int .i8 0, .int .i8 0, .int .u8 0, .int .i8 0, .int .i8 0, .int .u8 0, .int .i8 0, .int .i8 0, .int .u8 0, .int .i8 0, .int .i8 0, .int .u8 0, .int .i8 0, .int .i8 0, .int .u8 0, .int .i8 0, .int .i8 0, .int .u8 0, .int .i8 0, .int .i8 0, .int .u8 0, .int .i8 0, .int .i8 0, .int .u8 0] 37))) := Lib.hid (rdW_of hB0 (Nat.le_refl _))
  have HT : Hid ((w.alloc (Obj.cells #[.int .i64 0, .slice none 0 0, .int .i8 0, .int .i8 0, .int .u8 0, .int .i8 0, .int .i8 0, .int .u8 0, .int .i8 0, .int .i8 0, .int .u8 0, .int .i8 0, .int .i8 0, .int .u8 0, .int .i8 0, .int .i8 0, .int .u8 0, .int .i8 0, .int .i8 0, .int .u8 0, .int .i8 0, .int .i8 0, .int .u8 0, .int .i8 0, .int .i8 0, .int .u8 0] 37)).there w.heap.size 0 26) := Lib.hid (there_alloc_lit _ _ _ _ (by decide))
  have hv := leV_lt hby i
  have hv0 := leV_nn hby i 2
  have hv2 := hv.2.1
  have hs0 : w.heap.size < (w.alloc (Obj.cells #[.int .i64 0, .slice none 0 0, .int .i8 0, .int .i8 0, .int .u8 0, .int .i8 0, .int .i8 0, .int .u8 0, .int .i8 0, .int .i8 0, .int .u8 0, .int .i8 0, .int .i8 0, .int .u8 0, .int .i8 0, .int .i8 0, .int .u8 0, .int .i8 0, .int .i8 0, .int .u8 0, .int .i8 0, .int .i8 0, .int .u8 0, .int .i8 0, .int .i8 0, .int .u8 0] 37)).heap.size := by simp
  have HLen : Hid ((eLen bs i : Int) = leV bs i 2) := Lib.hid (by unfold eLen; omega)
  have HEB := Lib.hid (eBy_by hby i)
  have HEL : Hid (i + 2 + eLen bs i ≤ bs.length → (eBy bs i).length = eLen bs i) := Lib.hid eBy_len
  have HEA : Hid (∀ W, BytesAt W b o bs → i + 2 + eLen bs i ≤ bs.length → BytesAt W b (o + (i + 2)) (eBy bs i)) := Lib.hid (fun W h1 h2 => eBy_at h1 h2)
  unfold LogQ
  generalize eBy bs i = eb at *
  generalize eLen bs i = m at *
  clear hby hr hb hB0 hv
  go_enter Try.func59, Try.ntmps59
  go_wp2_with fail
  generalize w.alloc (Obj.cells #[.int .i64 0, .slice none 0 0, .int .i8 0, .int .i8 0, .int .u8 0, .int .i8 0, .int .i8 0, .int .u8 0, .int .i8 0, .int .i8 0, .int .u8 0, .int .i8 0, .int .i8 0, .int .u8 0, .int .i8 0, .int .i8 0, .int .u8 0, .int .i8 0, .int .i8 0, .int .u8 0, .int .i8 0, .int .i8 0, .int .u8 0, .int .i8 0, .int .i8 0, .int .u8 0] 37) = w1 at *
  generalize hT2 : w.heap.size = T2 at *
  have HT2 := Lib.hid hT2
  clear hT2
  have hT2R : R < T2 := by omega
  refine (rnum_q R b o C i 2 bs _ HBY.out HR.out (by omega) (by omega) HB.out hRb).mono ?_
  rintro e w2 (⟨hle, rfl, hr2, ho2⟩ | ⟨hlt, rfl, rfl⟩)
  rotate_left
  · have HX : Hid (bs.length < i + 2 + m) := Lib.hid (by omega)
    clear hlt
    unfold wrongW
    go_wp2_with fail
    exact ⟨rfl, Or.inr ⟨Or.inl HX.out, rfl, HD.out⟩⟩
  have HR2 := Lib.hid hr2
  have HB2 := Lib.hid (HB.out.block (ho2.block b hRb))
  have HD2 := Lib.hid (HD.out.trans ho2.rdW)
  have HTh2 := Lib.hid (there_block HT.out (ho2.block T2 (by omega)))
  clear hr2 ho2 HR HB HD HT hle
  go_wp2_with fail
  rw [← HLen.out]
  by_cases hin : i + 2 + m ≤ bs.length
  rotate_left
  · refine (raw_end R b o _ C (i + 2) (m) _ HR2.out (by omega)).mono ?_
    rintro e w3 ⟨rfl, rfl⟩
    have HX : Hid (bs.length < i + 2 + m) := Lib.hid (by omega)
    clear hin
    unfold wrongW
    go_wp2_with fail
    exact ⟨rfl, Or.inr ⟨Or.inl HX.out, rfl, HD2.out⟩⟩
  refine (raw_any R b o _ C (i + 2) (m) _ HR2.out (by omega)).mono ?_
  rintro e w3 ⟨ad, rfl, had, hr3, ho3⟩
  have hl3 := HR2.out.lc
  have hm3 := HR2.out.cm
  have HV3 : Hid (BytesV w3 (.slice (some ad) (m) (C - (i + 2))) eb) := Lib.hid (by
    refine ⟨some ad, C - (i + 2), by rw [HEL.out hin], by rw [HEL.out hin]; omega, by omega, fun h0 => ?_⟩
    rw [HEL.out hin] at h0
    refine ⟨b, o + (i + 2), by rw [had h0], by rw [ho3.size]; have := block_of_cell (HB2.out 0 (by omega)); simpa using this, HEA.out _ (HB2.out.block (ho3.block b hRb)) hin⟩)
  have HR3 := Lib.hid hr3
  have HB3 := Lib.hid (HB2.out.block (ho3.block b hRb))
  have HD3 := Lib.hid (HD2.out.trans ho3.rdW)
  have HTh3 := Lib.hid (there_block HTh2.out (ho3.block T2 (by omega)))
  have hT23 : T2 < w3.heap.size := there_lt (n := 25) HTh3.out
  have HIn := Lib.hid hin
  clear hr3 ho3 had hl3 hm3 HR2 HB2 HD2 HTh2 hin hv0 hv2
  go_wp2_with fail
  refine (get_any _ eb _ HV3.out HEB.out).mono ?_
  rintro e w4 ⟨hp, hb4⟩
  have HR4 := Lib.hid (HR3.out.block (hb4.block R HR3.out.lt))
  have HD4 := Lib.hid (HD3.out.trans (rdW_of hb4 (Nat.le_refl _)))
  have HTh4 := Lib.hid (there_block HTh3.out (hb4.block T2 hT23))
  have hT24 : T2 < w4.heap.size := there_lt (n := 25) HTh4.out
  have hT2w3 := hT23
  clear hb4 HR3 HD3 HTh3 HV3 HB3 hT23
  rcases hp with ⟨hok, sv, rfl, hev⟩ | ⟨hno, rfl⟩
  · have HOk := Lib.hid hok
    have HEv := Lib.hid hev
    have HO1 := Lib.hid (hev.evs.one (gFr eb) (gI eb))
    have HX := Lib.hid (entAt_new (gFr eb) sv (gI eb) 37 w4)
    have HB5 := Lib.hid ((Below.refl w4.heap.size w4).alloc (Nat.le_refl _) (Obj.cells (entL (gFr eb) sv (gI eb)).toArray 37))
    have HTh5 : Hid ((w4.alloc (Obj.cells (entL (gFr eb) sv (gI eb)).toArray 37)).there T2 0 (entL (gFr eb) sv (gI eb)).toArray.size) := Lib.hid (by
      have e : (entL (gFr eb) sv (gI eb)).toArray.size = 26 := by rw [List.size_toArray, entL_len]
      rw [e]; exact there_block HTh4.out (HB5.out.block T2 hT24))
    have HR5 := Lib.hid (HR4.out.block (HB5.out.block R (by omega)))
    have HD5 := Lib.hid (HD4.out.trans (rdW_of HB5.out (Nat.le_refl _)))
    have HEv5 := Lib.hid (HEv.out.below HB5.out (Nat.le_refl _))
    clear hok hev
    go_wp2_with (first | (refine wpList_store_ent (op := ⟨none, Op.store 37 (.tmp 3) _, _, _, _, _⟩) rfl (.tmp 3) (.tmp 12) rfl (gFr eb) sv (gI eb) HO1.out w4 w4.heap.size rfl rfl rfl ?_) | (refine wpList_load_g (op := ⟨some 18, _, _, _, _, _⟩) (by rfl) 37 _ rfl w4.heap.size 0 rfl _ _ HX.out.range Try.underlying37 rfl (size_ent _ _ _) ?_) | (refine wpList_store_mid (op := ⟨none, Op.store 37 (.tmp 2) _, _, _, _, _⟩) rfl 37 _ _ rfl T2 0 (entL (gFr eb) sv (gI eb)).toArray rfl rfl HTh5.out (by exact size_ent (gFr eb) sv (gI eb)) HO1.out ?_))
    have HW : Hid (RdW R w ((w4.alloc (Obj.cells (entL (gFr eb) sv (gI eb)).toArray 37)).setCells T2 0 (entL (gFr eb) sv (gI eb)))) := Lib.hid (rdW_setCells HD5.out T2 (by have := HT2.out; omega) _)
    have HRW : Hid (RwAt ((w4.alloc (Obj.cells (entL (gFr eb) sv (gI eb)).toArray 37)).setCells T2 0 (entL (gFr eb) sv (gI eb))) R b o bs.length C (i + 2 + m)) := Lib.hid (HR5.out.block (setCells_other T2 R (by omega) _ _ _))
    have HEW := Lib.hid ((HEv5.out.stored hT2w3 (entL (gFr eb) sv (gI eb))).mono (Nat.le_of_lt hT2w3))
    have HEn : Hid (EntAt ((w4.alloc (Obj.cells (entL (gFr eb) sv (gI eb)).toArray 37)).setCells T2 0 (entL (gFr eb) sv (gI eb))) T2 0 (gFr eb) sv (gI eb)) := Lib.hid (entAt_stored (there_block HTh4.out (HB5.out.block T2 hT24)) (gFr eb) sv (gI eb))
    generalize (w4.alloc (Obj.cells (entL (gFr eb) sv (gI eb)).toArray 37)).setCells T2 0 (entL (gFr eb) sv (gI eb)) = w6 at *
    go_wp2_with fail
    exact bodyPost_ret (v := .agg (entL (gFr eb) sv (gI eb)).toArray) (results_log _ _ T2 rfl (gFr eb) sv (gI eb) HEn.out) rfl (Or.inl ⟨HIn.out, HOk.out, ⟨sv, rfl, by rw [HT2.out]; exact HEW.out⟩, HRW.out, HW.out⟩)
  · have HX : Hid (¬ OkG eb) := Lib.hid hno
    clear hno
    have HO1 := Lib.hid (entL_one 0 none 0 0 (fun _ => 0))
    have HB5 := Lib.hid ((Below.refl w4.heap.size w4).alloc (Nat.le_refl _) (Obj.cells (entL 0 (.slice none 0 0) (fun _ => 0)).toArray 37))
    go_wp2_with (refine wpList_store_ent (op := ⟨none, Op.store 37 _ _, _, _, _, _⟩) rfl (.tmp 3) (.tmp 12) rfl 0 (.slice none 0 0) (fun _ => 0) HO1.out w4 w4.heap.size rfl rfl rfl ?_)
    exact ⟨rfl, Or.inr ⟨Or.inr HX.out, rfl, HD4.out.trans (rdW_of HB5.out (Nat.le_refl _))⟩⟩
end Go.Proofs.Ytembppihfcclcaa
