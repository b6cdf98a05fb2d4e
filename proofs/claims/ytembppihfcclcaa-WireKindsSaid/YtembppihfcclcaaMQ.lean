/-
  Wire: what Get answers; its state's steps.
-/
import Derived.Test.YtembppihfcclcaaMP
namespace Go.Proofs.Ytembppihfcclcaa
set_option linter.unusedVariables false
open Go.ChangeShapes Go.WideShapes Go.ChangeAt Go.RowKit

set_option linter.unusedSimpArgs false
theorem sgn_bd (x : Int) (h : 0 ≤ x ∧ x < 256) : -128 ≤ sgn x ∧ sgn x ≤ 127 := by unfold sgn; split <;> omega
theorem entB_g {bs : List Int} (hby : ByteL bs) : EntB (gFr bs) (gN bs) (gE bs) (gI bs) := by
  constructor
  · have h0 := hby 0
    have h1 := hby 1
    have h2 := hby 2
    have h3 := hby 3
    unfold gFr; omega
  · intro i hi j hj
    have c0 := hby (5 + 5 * i)
    have c1 := hby (5 + 5 * i + 1)
    have c2 := hby (5 + 5 * i + 2)
    have c3 := hby (5 + 5 * i + 3)
    have c4 := hby (5 + 5 * i + 4)
    rcases (by omega : j = 0 ∨ j = 1 ∨ j = 2 ∨ j = 3) with rfl | rfl | rfl | rfl
    · show _ ≤ zz bs (5 + 5 * i) ∧ zz bs (5 + 5 * i) ≤ _; omega
    · show _ ≤ zz bs (5 + 5 * i + 1) ∧ zz bs (5 + 5 * i + 1) ≤ _; omega
    · show _ ≤ zz bs (5 + 5 * i + 2) + zz bs (5 + 5 * i + 3) * 256 ∧ zz bs (5 + 5 * i + 2) + zz bs (5 + 5 * i + 3) * 256 ≤ _; omega
    · show _ ≤ zz bs (5 + 5 * i + 4) ∧ zz bs (5 + 5 * i + 4) ≤ _; omega
  · intro j hj h3
    unfold gI
    split
    · have := hby (6 + 5 * gN bs + 3 * gcnt (gM bs) (j / 3) + j % 3)
      unfold sgn
      split <;> omega
    · omega
  · intro j hj h3
    unfold gI
    split
    · have := hby (6 + 5 * gN bs + 3 * gcnt (gM bs) (j / 3) + j % 3)
      omega
    · omega
/-- The numbers of what bytes say. -/
theorem msgB_prs {bs : List Int} (h : ByteL bs) : MsgB (prsM bs) := by
  constructor
  · exact ⟨leV_nn h 2 2, (leV_lt h 2).2.1⟩
  · exact ⟨leV_nn h 4 2, (leV_lt h 4).2.1⟩
  · exact ⟨leV_nn h 6 4, (leV_lt h 6).2.2.1⟩
  · exact ⟨(gV_bd h 6).1, (gV_bd h 6).2.1 (by decide)⟩
  · exact ⟨(gV_bd h 7).1, (gV_bd h 7).2.2⟩
  · intro i hi
    show 0 ≤ gIn bs (i * 3 + 2) ∧ gIn bs (i * 3 + 2) ≤ 255
    unfold gIn
    rw [if_pos (by omega)]
    have := h (gQi bs + (i * 3 + 2))
    omega
  · intro i hi
    show (-128 ≤ gIn bs (i * 3) ∧ gIn bs (i * 3) ≤ 127) ∧ (-128 ≤ gIn bs (i * 3 + 1) ∧ gIn bs (i * 3 + 1) ≤ 127)
    unfold gIn
    rw [if_neg (by omega), if_neg (by omega)]
    exact ⟨sgn_bd _ (h _), sgn_bd _ (h _)⟩
  · intro i hi
    exact entB_g (eBy_by h _)
  · show ByteL (gDt bs)
    unfold gDt
    rw [byteL_iff] at h ⊢
    exact fun x hx => h x (List.mem_of_mem_drop (List.mem_of_mem_take hx))
theorem ByteL.drop {bs : List Int} (h : ByteL bs) (k : Nat) : ByteL (bs.drop k) := by
  rw [byteL_iff] at h ⊢
  exact fun x hx => h x (List.mem_of_mem_drop hx)
theorem putM_by {M : Msg} (hm : MsgB M) : ByteL (putM M) := by
  rw [putM_eq, byteL_iff]
  intro x hx
  rcases List.mem_append.1 hx with hx | hx
  · exact leB_by _ _ x hx
  · exact byteL_iff.1 (bodyM_by hm) x hx
/-- Is the sum right? Does what stands behind it say a message, and is it that one's bytes? -/
def SumOk (bs : List Int) : Prop := 4 ≤ bs.length ∧ leV bs 0 4 = ((crc (bs.drop 4) (bs.drop 4).length : Nat) : Int)
def OkM (bs : List Int) : Prop := POk (bs.drop 4) ∧ mayM (prsM (bs.drop 4)) = true ∧ (putM (prsM (bs.drop 4))).length ≤ 1200 ∧ putM (prsM (bs.drop 4)) = bs
def GetQ (bs : List Int) (e : Ending) (w' : World) : Prop :=
  (¬ SumOk bs ∧ e = .returned (.tuple #[.agg zL.toArray, .int .i64 9])) ∨
  (SumOk bs ∧ ¬ OkM bs ∧ e = .returned (.tuple #[.agg zL.toArray, .int .i64 2])) ∨
  (SumOk bs ∧ OkM bs ∧ ∃ iv lv dv, e = .returned (.tuple #[.agg (msgL (gF (bs.drop 4)) iv lv dv).toArray, .int .i64 0]) ∧ RowsV w' iv lv dv (prsM (bs.drop 4)))
theorem rdW_set (T : Nat) (vs : List Value) (w : World) : RdW T w (w.setCells T 0 vs) := by
  have hb := below_setCells (B := T) T (Nat.le_refl _) vs 0 (Below.refl T w)
  exact ⟨hb.os, hb.tape, hb.output, hb.size, fun k hk hne => setCells_other T k hne vs 0 w⟩
theorem rwAt_new {w : World} {b o n C : Nat} (hc : n ≤ C) (hm : C ≤ maxLen) : RwAt (w.alloc (Obj.cells #[.slice (some ⟨b, o, none⟩) n C] 79)) w.heap.size b o n C 0 := by
  refine ⟨⟨⟨b, o, none⟩, ?_, fun _ => rfl⟩, by rw [World.frozen?_alloc_new], Nat.zero_le _, hc, hm⟩
  rw [World.cell?_alloc_new]; rfl
theorem BytesAt.drop {w : World} {b o : Nat} {bs : List Int} (h : BytesAt w b o bs) (k : Nat) : BytesAt w b (o + k) (bs.drop k) := by
  intro j hj
  rw [List.length_drop] at hj
  have := h (k + j) (by omega)
  rw [show o + k + j = o + (k + j) by omega, this]
  congr 2
  rw [List.getD_eq_getElem?_getD, List.getD_eq_getElem?_getD, List.getElem?_drop]
section
variable {w wr w' : World} {F : Nat → Int} {iv lv dv : Value} {x : Int}
/-- A message into Get's result. -/
theorem GX.put (h : GX w F iv lv dv x wr) (F' : Nat → Int) (iv' lv' dv' : Value) : GX w F' iv' lv' dv' x (wr.setCells w.heap.size 0 (msgL F' iv' lv' dv')) := by
  have hat := msgAt_stored h.th F' iv' lv' dv'
  have hoth : ∀ k, k ≠ w.heap.size → (wr.setCells w.heap.size 0 (msgL F' iv' lv' dv')).heap[k]? = wr.heap[k]? := fun k hk => setCells_other w.heap.size k hk _ _ _
  have hfz : ∀ x, (wr.setCells w.heap.size 0 (msgL F' iv' lv' dv')).frozen? x = wr.frozen? x := fun x => World.frozen?_setCells w.heap.size (msgL F' iv' lv' dv') 0 wr x
  have hbb := below_setCells w.heap.size (Nat.le_refl _) (msgL F' iv' lv' dv') 0 h.bel
  generalize wr.setCells w.heap.size 0 (msgL F' iv' lv' dv') = w2 at *
  have hth : w2.there w.heap.size 0 16 := fun j hj => by
    have h1 := hat.cell j hj
    have h2 := (h.th j hj).2
    rw [Nat.zero_add] at h2 ⊢
    exact ⟨by rw [h1]; rfl, by rw [hfz]; exact h2⟩
  exact ⟨hat, hth, (World.cell?_of_block (hoth (w.heap.size + 1) (by omega))).trans h.c3, (World.frozen?_of_block (hoth (w.heap.size + 1) (by omega))).trans h.f3, hbb⟩
theorem GX.code (h : GX w F iv lv dv x wr) (y : Int) : GX w F iv lv dv y (wr.setCell ⟨w.heap.size + 1, 0, none⟩ (.int .i64 y)) :=
  ⟨h.msg.block (Below.heap_setCell _ _ _ _ (by show w.heap.size ≠ w.heap.size + 1; omega)), there_block h.th (Below.heap_setCell _ _ _ _ (by show w.heap.size ≠ w.heap.size + 1; omega)), World.cell?_setCell_same _ _ _ h.c3, by rw [World.frozen?_setCell]; exact h.f3, h.bel.setCell (p := ⟨w.heap.size + 1, 0, none⟩) (by show w.heap.size ≤ w.heap.size + 1; omega) _⟩
theorem GX.drew (h : GX w F iv lv dv x wr) : GX w F iv lv dv x wr.drew := h.grow ((Below.refl wr.heap.size wr).drew) (by have := h.lt; omega)
end
theorem gx_start (w : World) : GX w zF (.slice none 0 0) (.slice none 0 0) (.slice none 0 0) 0 ((w.alloc (Obj.cells #[.int .i64 0, .int .i64 0, .int .u16 0, .int .u16 0, .int .u32 0, .int .i64 0, .int .i64 0, .int .i64 0, .int .i64 0, .int .i64 0, .int .i64 0, .int .u32 0, .int .u64 0, .slice none 0 0, .slice none 0 0, .slice none 0 0] 30)).alloc (Obj.cells #[.int .i64 0] 3)) := by
  have e1 : MsgAt (w.alloc (Obj.cells #[.int .i64 0, .int .i64 0, .int .u16 0, .int .u16 0, .int .u32 0, .int .i64 0, .int .i64 0, .int .i64 0, .int .i64 0, .int .i64 0, .int .i64 0, .int .u32 0, .int .u64 0, .slice none 0 0, .slice none 0 0, .slice none 0 0] 30)) w.heap.size zF (.slice none 0 0) (.slice none 0 0) (.slice none 0 0) := msgAt_new zF (.slice none 0 0) (.slice none 0 0) (.slice none 0 0) 30 w
  have t1 := there_msgZ w
  have s1 : (w.alloc (Obj.cells #[.int .i64 0, .int .i64 0, .int .u16 0, .int .u16 0, .int .u32 0, .int .i64 0, .int .i64 0, .int .i64 0, .int .i64 0, .int .i64 0, .int .i64 0, .int .u32 0, .int .u64 0, .slice none 0 0, .slice none 0 0, .slice none 0 0] 30)).heap.size = w.heap.size + 1 := by simp
  have b1 := (Below.refl w.heap.size w).alloc (Nat.le_refl _) (Obj.cells #[.int .i64 0, .int .i64 0, .int .u16 0, .int .u16 0, .int .u32 0, .int .i64 0, .int .i64 0, .int .i64 0, .int .i64 0, .int .i64 0, .int .i64 0, .int .u32 0, .int .u64 0, .slice none 0 0, .slice none 0 0, .slice none 0 0] 30)
  generalize w.alloc (Obj.cells #[.int .i64 0, .int .i64 0, .int .u16 0, .int .u16 0, .int .u32 0, .int .i64 0, .int .i64 0, .int .i64 0, .int .i64 0, .int .i64 0, .int .i64 0, .int .u32 0, .int .u64 0, .slice none 0 0, .slice none 0 0, .slice none 0 0] 30) = w1 at *
  have k2 := Below.heap_alloc w1 (Obj.cells #[.int .i64 0] 3) w.heap.size (by omega)
  refine ⟨e1.block k2, there_block t1 k2, ?_, ?_, b1.alloc b1.size _⟩
  · rw [← s1, World.cell?_alloc_new]; rfl
  · rw [← s1, World.frozen?_alloc_new]
end Go.Proofs.Ytembppihfcclcaa
