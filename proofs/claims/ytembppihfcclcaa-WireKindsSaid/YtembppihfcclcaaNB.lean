/-
  Wire: WireBounds.
-/
import Derived.Test.YtembppihfcclcaaNA
import Derived.Deep.DeepCutAuto
namespace Go.Proofs.Ytembppihfcclcaa
set_option linter.unusedVariables false
open Go.ChangeShapes Go.WideShapes Go.ChangeAt Go.RowKit

set_option linter.unusedSimpArgs false
/-- Numbers of a message, some of them given. -/
def uF (F : Nat → Int) (k : Nat) (v : Int) : Nat → Int := fun j => if j = k then v else F j
def bF0 : Nat → Int := fun k => if k = 0 then 2 else if k = 1 then 11 else if k = 5 then 7 else if k = 6 then 60000 else if k = 7 then 1048576 else 0
theorem build_b0 (w : World) : (Instr.build 30 #[(0, .int .i64 2), (1, .int .i64 11), (5, .int .i64 7), (6, .int .i64 60000), (7, .int .i64 1048576)]).run Try.prog w = .ok (.agg (msgL bF0 (.slice none 0 0) (.slice none 0 0) (.slice none 0 0)).toArray) w := by kernel_rfl
theorem len_put (M : Msg) : (putM M).length = 4 + (bodyM M).length := by rw [putM_eq, List.length_append, leB_len]
theorem MsgAt.up {w : World} {b : Nat} {F : Nat → Int} {iv lv dv : Value} (h : MsgAt w b F iv lv dv) (k : Nat) (hk : k < 13) (v : Int) : MsgAt (w.setCell ⟨b, k, none⟩ (.int (Ytembppihfcclcaa.mk k) v)) b (uF F k v) iv lv dv := by
  refine h.set k (fun j hj => ?_)
  unfold msgF uF
  by_cases e : j = k
  · subst e
    rw [if_neg (by omega), if_neg (by omega), if_neg (by omega), if_pos rfl, if_pos rfl]
  · rw [if_neg e, if_neg e]
/-- What stands behind the choice: the message, which may be just if nothing was added. -/
def BQ (w : World) (more : Bool) (wx : World) : Prop := ∃ M iv lv dv, MsgAt wx w.heap.size M.F iv lv dv ∧ RowsV wx iv lv dv M ∧ MsgB M ∧ mayM M = !more ∧ (more = false → (putM M).length ≤ 1200) ∧ Below w.heap.size w wx
theorem bq_num {w wx : World} {more : Bool} {F : Nat → Int} (hA : MsgAt wx w.heap.size F (.slice none 0 0) (.slice none 0 0) (.slice none 0 0)) (hb : Below w.heap.size w wx) (hB : MsgB (numM F)) (hm : mayM (numM F) = !more) (hl : more = false → 4 + (bodyM (numM F)).length ≤ 1200) : BQ w more wx :=
  ⟨numM F, _, _, _, hA, rows_nil wx F, hB, hm, fun h => by rw [len_put]; exact hl h, hb⟩
theorem bytesV_new (w : World) (bs : List Int) (n : Nat) (hn : bs.length = n) (hm : n ≤ maxLen) : BytesV (w.alloc (Obj.cells (bv bs).toArray 5)) (.slice (some ⟨w.heap.size, 0, none⟩) n n) bs := by
  subst hn
  refine ⟨_, _, rfl, Nat.le_refl _, hm, fun h => ⟨w.heap.size, 0, rfl, by simp, fun j hj => ?_⟩⟩
  rw [Nat.zero_add, World.cell?_alloc_new, List.getElem?_toArray]
  unfold bv
  rw [List.getElem?_map, List.getElem?_eq_getElem hj, List.getD_eq_getElem?_getD, List.getElem?_eq_getElem hj]
  rfl
theorem inpsV_new (w : World) (I : Nat → Int) (n : Nat) (hm : n ≤ maxLen) : InpsV (w.alloc (Obj.cells (inL3 I n).toArray 34)) (.slice (some ⟨w.heap.size, 0, none⟩) n n) n I := by
  refine ⟨_, _, rfl, Nat.le_refl _, hm, fun h => ⟨w.heap.size, 0, rfl, by simp, ⟨fun i hi => ?_, fun i hi => ?_, fun i hi => ?_⟩⟩⟩
  · rw [Nat.zero_add, World.cell?_alloc_new, List.getElem?_toArray]; exact (inL3_get I n i hi).1
  · rw [Nat.zero_add, World.cell?_alloc_new, List.getElem?_toArray]; exact (inL3_get I n i hi).2.1
  · rw [Nat.zero_add, World.cell?_alloc_new, List.getElem?_toArray]; exact (inL3_get I n i hi).2.2
theorem bytesV_put {w w' : World} {B n : Nat} {bs : List Int} (h : BytesV w (.slice (some ⟨B, 0, none⟩) n n) bs) (hk : w'.heap[B]? = w.heap[B]?) (hs : w.heap.size ≤ w'.heap.size) : BytesV w' (.slice (some ⟨B, 0, none⟩) n n) bs := by
  obtain ⟨a, c, e, h1, h2, h3⟩ := h
  refine ⟨a, c, e, h1, h2, fun h0 => ?_⟩
  obtain ⟨b, o, e2, hb, hc⟩ := h3 h0
  injection e with e3 e4 e5
  rw [e2] at e3
  injection e3 with e3
  injection e3 with e6 e7
  subst e6
  exact ⟨B, o, e2, by omega, fun j hj => (World.cell?_of_block (a := ⟨B, o + j, none⟩) hk).trans (hc j hj)⟩
theorem inpsV_put {w w' : World} {B n : Nat} {I : Nat → Int} (h : InpsV w (.slice (some ⟨B, 0, none⟩) n n) n I) (hk : w'.heap[B]? = w.heap[B]?) (hs : w.heap.size ≤ w'.heap.size) : InpsV w' (.slice (some ⟨B, 0, none⟩) n n) n I := by
  obtain ⟨a, c, e, h1, h2, h3⟩ := h
  refine ⟨a, c, e, h1, h2, fun h0 => ?_⟩
  obtain ⟨b, o, e2, hb, hc⟩ := h3 h0
  injection e with e3 e4 e5
  rw [e2] at e3
  injection e3 with e3
  injection e3 with e6 e7
  subst e6
  exact ⟨B, o, e2, by omega, hc.block hk⟩
def iE : Nat → Ent := fun i => ⟨(i : Int), 0, fun _ _ => 0, fun _ => 0⟩
theorem iE_b (i : Nat) (hi : i ≤ 1000) : EntB (iE i).fr (iE i).n (iE i).E (iE i).I := by
  refine ⟨?_, fun j hj => absurd hj (Nat.not_lt_zero _), fun k _ _ => ?_, fun k _ _ => ?_⟩
  · show _ ≤ (i : Int) ∧ (i : Int) ≤ _; omega
  · show (-128 : Int) ≤ 0 ∧ (0 : Int) ≤ 127; omega
  · show (0 : Int) ≤ 0 ∧ (0 : Int) ≤ 255; omega
theorem LG.reset {w0 w : World} {T B n : Nat} {F : Nat → Int} {lv : Value} {D : Nat → Ent} (h : LG w0 T B F lv n D w) (F' : Nat → Int) (D' : Nat → Ent) : LG w0 T B F' (.slice none 0 0) 0 D' (w.setCells T 0 (msgL F' (.slice none 0 0) (.slice none 0 0) (.slice none 0 0))) := by
  have hat := msgAt_stored h.th F' (.slice none 0 0) (.slice none 0 0) (.slice none 0 0)
  have hfz : ∀ x, (w.setCells T 0 (msgL F' (.slice none 0 0) (.slice none 0 0) (.slice none 0 0))).frozen? x = w.frozen? x := fun x => World.frozen?_setCells T _ 0 w x
  have hbb := below_setCells T h.hw0 (msgL F' (.slice none 0 0) (.slice none 0 0) (.slice none 0 0)) 0 h.bel
  have hsz := setCells_size T (msgL F' (.slice none 0 0) (.slice none 0 0) (.slice none 0 0)) 0 w
  generalize w.setCells T 0 (msgL F' (.slice none 0 0) (.slice none 0 0) (.slice none 0 0)) = w2 at *
  have hth : w2.there T 0 16 := fun j hj => by
    have h1 := hat.cell j hj
    have h2 := (h.th j hj).2
    rw [Nat.zero_add] at h2 ⊢
    exact ⟨by rw [h1]; rfl, by rw [hfz]; exact h2⟩
  exact ⟨hat, hth, h.hw0, h.hTB, by rw [hsz]; exact h.hB, ⟨fun _ => .slice none 0 0, World.ownsRow_nil _ _ _ _, fun i hi => absurd hi (Nat.not_lt_zero _)⟩, hbb⟩
def rep0 (n : Nat) : List Int := List.replicate n 0
theorem rep0_by (n : Nat) : ByteL (rep0 n) := by
  rw [byteL_iff]
  intro x hx
  have := List.eq_of_mem_replicate hx
  omega
theorem fE_b (f : Int) (hf : 0 ≤ f ∧ f ≤ 2000000) (i : Nat) (hi : i ≤ 1000) : EntB (fE f i).fr (fE f i).n (fE f i).E (fE f i).I := by
  refine ⟨?_, fun j hj => absurd hj (Nat.not_lt_zero _), fun k _ _ => ?_, fun k _ _ => ?_⟩
  · show _ ≤ f + (i : Int) ∧ f + (i : Int) ≤ _; omega
  · show (-128 : Int) ≤ 0 ∧ (0 : Int) ≤ 127; omega
  · show (0 : Int) ≤ 0 ∧ (0 : Int) ≤ 255; omega
theorem bq_of {w wx : World} {more : Bool} {M : Msg} {iv lv dv : Value} (hA : MsgAt wx w.heap.size M.F iv lv dv) (hR : RowsV wx iv lv dv M) (hb : Below w.heap.size w wx) (hB : MsgB M) (hm : mayM M = !more) (hl : more = false → 4 + (bodyM M).length ≤ 1200) : BQ w more wx :=
  ⟨M, _, _, _, hA, hR, hB, hm, fun h => by rw [len_put]; exact hl h, hb⟩
def bF7 : Nat → Int := fun k => if k = 0 then 7 else if k = 10 then 1 else 0
def bF8 : Nat → Int := fun k => if k = 0 then 4 else if k = 6 then 1 else 0
def bF9 : Nat → Int := fun k => if k = 0 then 5 else 0
theorem build_b9 (w : World) : (Instr.build 30 #[(0, .int .i64 5)]).run Try.prog w = .ok (.agg (msgL bF9 (.slice none 0 0) (.slice none 0 0) (.slice none 0 0)).toArray) w := by kernel_rfl
def bF60 : Nat → Int := fun k => if k = 0 then 7 else if k = 9 then 7 else if k = 10 then 8 else 0
theorem build_b60 (ad : Addr) (w : World) : (Instr.build 30 #[(0, .int .i64 7), (9, .int .i64 7), (10, .int .i64 8), (15, .slice (some ad) 1 1)]).run Try.prog w = .ok (.agg (msgL bF60 (.slice none 0 0) (.slice none 0 0) (.slice (some ad) 1 1)).toArray) w := by kernel_rfl
theorem build_b70 (ad : Addr) (w : World) : (Instr.build 30 #[(0, .int .i64 7), (10, .int .i64 1), (15, .slice (some ad) 64 64)]).run Try.prog w = .ok (.agg (msgL bF7 (.slice none 0 0) (.slice none 0 0) (.slice (some ad) 64 64)).toArray) w := by kernel_rfl
theorem mk_b70 (w : World) : (Instr.makeSlice 28 (.int .i64 64) (.int .i64 64)).run Try.prog w = .ok (.slice (some ⟨w.heap.size, 0, none⟩) 64 64) (w.alloc (Obj.cells (bv (rep0 64)).toArray 5)) := by kernel_rfl
theorem build_b80 (ad : Addr) (w : World) : (Instr.build 30 #[(0, .int .i64 4), (6, .int .i64 1), (13, .slice (some ad) 16 16)]).run Try.prog w = .ok (.agg (msgL bF8 (.slice (some ad) 16 16) (.slice none 0 0) (.slice none 0 0)).toArray) w := by kernel_rfl
theorem mk_b80 (w : World) : (Instr.makeSlice 26 (.int .i64 16) (.int .i64 16)).run Try.prog w = .ok (.slice (some ⟨w.heap.size, 0, none⟩) 16 16) (w.alloc (Obj.cells (inL3 (fun _ => 0) 16).toArray 34)) := by kernel_rfl
def bF40 : Nat → Int := fun k => if k = 0 then 3 else if k = 8 then 9 else 0
theorem build_b40 (w : World) : (Instr.build 30 #[(0, .int .i64 3), (8, .int .i64 9)]).run Try.prog w = .ok (.agg (msgL bF40 (.slice none 0 0) (.slice none 0 0) (.slice none 0 0)).toArray) w := by kernel_rfl
def bF50 : Nat → Int := fun k => if k = 0 then 11 else if k = 9 then 65535 else 0
theorem build_b50 (w : World) : (Instr.build 30 #[(0, .int .i64 11), (9, .int .i64 65535)]).run Try.prog w = .ok (.agg (msgL bF50 (.slice none 0 0) (.slice none 0 0) (.slice none 0 0)).toArray) w := by kernel_rfl
def bF61 : Nat → Int := fun k => if k = 0 then 7 else if k = 9 then 7 else if k = 10 then 7 else 0
theorem build_b61 (ad : Addr) (w : World) : (Instr.build 30 #[(0, .int .i64 7), (9, .int .i64 7), (10, .int .i64 7), (15, .slice (some ad) 1 1)]).run Try.prog w = .ok (.agg (msgL bF61 (.slice none 0 0) (.slice none 0 0) (.slice (some ad) 1 1)).toArray) w := by kernel_rfl
theorem build_b71 (ad : Addr) (w : World) : (Instr.build 30 #[(0, .int .i64 7), (10, .int .i64 1), (15, .slice (some ad) 65 65)]).run Try.prog w = .ok (.agg (msgL bF7 (.slice none 0 0) (.slice none 0 0) (.slice (some ad) 65 65)).toArray) w := by kernel_rfl
theorem mk_b71 (w : World) : (Instr.makeSlice 28 (.int .i64 65) (.int .i64 65)).run Try.prog w = .ok (.slice (some ⟨w.heap.size, 0, none⟩) 65 65) (w.alloc (Obj.cells (bv (rep0 65)).toArray 5)) := by kernel_rfl
theorem build_b81 (ad : Addr) (w : World) : (Instr.build 30 #[(0, .int .i64 4), (6, .int .i64 1), (13, .slice (some ad) 17 17)]).run Try.prog w = .ok (.agg (msgL bF8 (.slice (some ad) 17 17) (.slice none 0 0) (.slice none 0 0)).toArray) w := by kernel_rfl
theorem mk_b81 (w : World) : (Instr.makeSlice 26 (.int .i64 17) (.int .i64 17)).run Try.prog w = .ok (.slice (some ⟨w.heap.size, 0, none⟩) 17 17) (w.alloc (Obj.cells (inL3 (fun _ => 0) 17).toArray 34)) := by kernel_rfl
def bF41 : Nat → Int := fun k => if k = 0 then 3 else if k = 8 then 10 else 0
theorem build_b41 (w : World) : (Instr.build 30 #[(0, .int .i64 3), (8, .int .i64 10)]).run Try.prog w = .ok (.agg (msgL bF41 (.slice none 0 0) (.slice none 0 0) (.slice none 0 0)).toArray) w := by kernel_rfl
def bF51 : Nat → Int := fun k => if k = 0 then 11 else if k = 9 then 65536 else 0
theorem build_b51 (w : World) : (Instr.build 30 #[(0, .int .i64 11), (9, .int .i64 65536)]).run Try.prog w = .ok (.agg (msgL bF51 (.slice none 0 0) (.slice none 0 0) (.slice none 0 0)).toArray) w := by kernel_rfl
end Go.Proofs.Ytembppihfcclcaa
