/-
  Wire: what Get's deferred closure does; Get's doors. Wire: Get's state. Wire: what Get answers; its state's steps. Wire: a message read back from its bytes, in plain words. Wire: the reference's reader, followed along a message's bytes. Wire: the reference's parts of a kind.
-/
import Derived.Test.YtembppihfcclcaaMN
import Derived.Test.YtembppihfcclcaaG09x
namespace Go.Proofs.Ytembppihfcclcaa
set_option linter.unusedVariables false
open Go.ChangeShapes Go.WideShapes Go.ChangeAt Go.RowKit

set_option linter.unusedSimpArgs false
theorem taW_nil (w : World) : (Instr.typeAssert .nilIface 20 76 true).run Try.prog w = .ok (.tuple #[.agg #[], .bool false]) w := by
  simp [Instr.typeAssert, run_underlying Try.underlying76, go_sem]
theorem taW_wrong (w : World) : (Instr.typeAssert (.iface 76 (.agg #[])) 20 76 true).run Try.prog w = .ok (.tuple #[.agg #[], .bool true]) w := by
  simp [Instr.typeAssert, run_underlying Try.underlying76, go_sem]
theorem idle_getW (p q : Addr) (w : World) :
    CallsD Try.prog 41 #[.pointer (some p), .pointer (some q)] .returning w fun e u' w' => e = .returned (.tuple #[]) ∧ u' = .returning ∧ Below w.heap.size w w' := by
  refine callsD_of_wpS Try.func41 rfl fun c₀ cs hu => ?_
  apply wpS_seq
  apply wpS_region
  simp [wpOpsS, go_sem, recoverD, hu, Try.ntmps41, Exit.thenS, taW_nil]
  apply wpS_seq
  apply wpS_region
  simp [wpOpsS, go_sem, Exit.thenS]
  refine wpS_cond (t := false) (by simp [Act.eval, Array.replicate]) ?_
  simp only [Bool.false_eq_true, if_false]
  refine wpS_of_wp (wp_skip ?_)
  have hb := (Below.refl w.heap.size w).alloc (Nat.le_refl _) (Obj.cells #[] 76)
  cases c₀
  simp_all [bodyPostS, results, Try.results41]
/-- The zero message, as a row of cells. -/
def zF : Nat → Int := fun _ => 0
def zL : List Value := msgL zF (.slice none 0 0) (.slice none 0 0) (.slice none 0 0)
theorem zL_one : zL.toArray.all (·.oneCell') = true := nil_one zF
theorem build_msg0 (w : World) : (Instr.build 30 #[]).run Try.prog w = .ok (.agg zL.toArray) w := by kernel_rfl
theorem catch_getW (t2 t3 B : Nat) (w : World) (h2 : w.there t2 0 16) (x : Int) (c3 : w.cell? ⟨t3, 0, none⟩ = some (.int .i64 x)) (f3 : w.frozen? ⟨t3, 0, none⟩ = false) (hne : t2 ≠ t3) (hB2 : B ≤ t2) (hB3 : B ≤ t3) :
    CallsD Try.prog 41 #[.pointer (some ⟨t2, 0, none⟩), .pointer (some ⟨t3, 0, none⟩)] (.panicking wrongW) w fun e u' w' => e = .returned (.tuple #[]) ∧ u' = .panicking [{ v := .iface 76 (.agg #[]), recovered := true }] ∧
      (MsgAt w' t2 zF (.slice none 0 0) (.slice none 0 0) (.slice none 0 0) ∧ w'.cell? ⟨t3, 0, none⟩ = some (.int .i64 2) ∧ Below B w w') := by
  refine callsD_of_wpS Try.func41 rfl fun c₀ cs hu => ?_
  unfold wrongW at hu
  apply wpS_seq
  apply wpS_region
  simp [wpOpsS, go_sem, recoverD, hu, Try.ntmps41, Exit.thenS, taW_wrong]
  apply wpS_seq
  apply wpS_region
  simp [wpOpsS, go_sem, Exit.thenS]
  refine wpS_cond (t := true) (by simp [Act.eval, Array.replicate]) ?_
  simp only [if_true]
  refine wpS_of_wp ?_
  have hz1 : w.heap.size ≤ (w.alloc (Obj.cells #[] 76)).heap.size := by simp
  have h2' : (w.alloc (Obj.cells #[] 76)).there t2 0 16 := there_block h2 (Below.heap_alloc w _ t2 (there_lt h2))
  have c3a : (w.alloc (Obj.cells #[] 76)).cell? ⟨t3, 0, none⟩ = some (.int .i64 x) := (World.cell?_of_block (Below.heap_alloc w _ t3 (block_of_cell c3))).trans c3
  have f3a : (w.alloc (Obj.cells #[] 76)).frozen? ⟨t3, 0, none⟩ = false := (World.frozen?_of_block (Below.heap_alloc w _ t3 (block_of_cell c3))).trans f3
  have hb1 := (Below.refl B w).alloc (Nat.le_trans hB2 (Nat.le_of_lt (there_lt h2))) (Obj.cells #[] 76)
  have hat := msgAt_stored h2' zF (.slice none 0 0) (.slice none 0 0) (.slice none 0 0)
  have hbl := below_setCells t2 hB2 zL 0 hb1
  have hoth : ((w.alloc (Obj.cells #[] 76)).setCells t2 0 zL).heap[t3]? = (w.alloc (Obj.cells #[] 76)).heap[t3]? := setCells_other t2 t3 (fun e => hne e.symm) _ _ _
  have H2 : Hid ((w.alloc (Obj.cells #[] 76)).there t2 0 zL.toArray.size) := Lib.hid (by
    have e : zL.toArray.size = 16 := by unfold zL; rw [List.size_toArray, msgL_len]
    rw [e]; exact h2')
  have hat' : MsgAt ((w.alloc (Obj.cells #[] 76)).setCells t2 0 zL) t2 zF (.slice none 0 0) (.slice none 0 0) (.slice none 0 0) := hat
  clear hat
  generalize hw2 : (w.alloc (Obj.cells #[] 76)).setCells t2 0 zL = w2 at *
  have HW := Lib.hid hw2
  have c3b : w2.cell? ⟨t3, 0, none⟩ = some (.int .i64 x) := (World.cell?_of_block hoth).trans c3a
  have f3b : w2.frozen? ⟨t3, 0, none⟩ = false := (World.frozen?_of_block hoth).trans f3a
  have HAT := Lib.hid (hat'.block (w' := w2.setCell ⟨t3, 0, none⟩ (.int .i64 2)) (Below.heap_setCell _ _ _ _ (by show t2 ≠ t3; exact hne)))
  have HC3 := Lib.hid (World.cell?_setCell_same w2 ⟨t3, 0, none⟩ (.int .i64 2) c3b)
  have HBL := Lib.hid (hbl.setCell (p := ⟨t3, 0, none⟩) hB3 (.int .i64 2))
  have hbd := build_msg0
  clear hat' hbl hoth h2 h2' c3 f3 c3a f3a hb1 hz1 hw2
  go_wp2_with (refine wpList_store_mid rfl 30 _ _ rfl t2 0 zL.toArray rfl rfl H2.out (by have e : zL.toArray.size = zL.length := List.size_toArray; rw [e]; exact size_msg _ _ _ _) zL_one ?_; rw [show zL.toArray.toList = zL from rfl, HW.out])
  simp [bodyPostS, results, Try.results41]
  exact ⟨HAT.out, HC3.out, HBL.out⟩
end Go.Proofs.Ytembppihfcclcaa

namespace Go.Proofs.Ytembppihfcclcaa
set_option linter.unusedVariables false
open Go.ChangeShapes Go.WideShapes Go.ChangeAt Go.RowKit

set_option linter.unusedSimpArgs false
/-- What is laid into a scratch slot of Get does not matter to who leaves it by a panic. -/
theorem getW_put (k : Nat) (hk : k ≠ 2 ∧ k ≠ 3) (v : Value) (R : Ending → World → Prop) (c : List PanicEntry) (a : Act) (w : World) (h : bodyPostD Try.prog Try.f20 R (.panic c) (a.put (some k) v) w) : bodyPostD Try.prog Try.f20 R (.panic c) a w := by
  have h' : Leaves Try.prog Try.f20 (a.tmps.setIfInBounds k v) R a.defers (.panicking c) w := h
  show Leaves Try.prog Try.f20 a.tmps R a.defers (.panicking c) w
  refine leaves_congr (fun v' w' hr => ?_) _ _ _ h'
  have e2 : (a.tmps.setIfInBounds k v)[2]?.getD undef = a.tmps[2]?.getD undef := by rw [Array.getElem?_setIfInBounds, if_neg hk.1]
  have e3 : (a.tmps.setIfInBounds k v)[3]?.getD undef = a.tmps[3]?.getD undef := by rw [Array.getElem?_setIfInBounds, if_neg hk.2]
  simpa [results, Try.results20, e2, e3] using hr
theorem results_getW (tmps : Array Value) (w : World) (t2 t3 : Nat) (h2 : tmps.getD 2 undef = .pointer (some ⟨t2, 0, none⟩)) (h3 : tmps.getD 3 undef = .pointer (some ⟨t3, 0, none⟩)) (F : Nat → Int) (iv lv dv : Value) (x : Int) (he : MsgAt w t2 F iv lv dv) (hc : w.cell? ⟨t3, 0, none⟩ = some (.int .i64 x)) :
    (results Try.f20 tmps).run Try.prog w = .ok (.tuple #[.agg (msgL F iv lv dv).toArray, .int .i64 x]) w := by
  have hl := run_loadVar_mid (P := Try.prog) w t2 0 30 (msgL F iv lv dv) _ he.range Try.underlying30 rfl (size_msg F iv lv dv)
  have h2' : tmps[2]?.getD undef = .pointer (some ⟨t2, 0, none⟩) := by simpa using h2
  have h3' : tmps[3]?.getD undef = .pointer (some ⟨t3, 0, none⟩) := by simpa using h3
  have hl3 : (loadVar 3 ⟨t3, 0, none⟩).run Try.prog w = .ok (.int .i64 x) w := by simp [go_sem, hc]
  simp [results, Try.results20, h2', h3', asAddr, hl, hl3]
/-- Where Get stands: the result so far, the code. -/
structure GX (w : World) (F : Nat → Int) (iv lv dv : Value) (x : Int) (wr : World) : Prop where
  msg : MsgAt wr w.heap.size F iv lv dv
  th : wr.there w.heap.size 0 16
  c3 : wr.cell? ⟨w.heap.size + 1, 0, none⟩ = some (.int .i64 x)
  f3 : wr.frozen? ⟨w.heap.size + 1, 0, none⟩ = false
  bel : Below w.heap.size w wr
theorem GX.lt {w wr : World} {F : Nat → Int} {iv lv dv : Value} {x : Int} (h : GX w F iv lv dv x wr) : w.heap.size + 1 < wr.heap.size := block_of_cell h.c3
theorem GX.grow {w wr w' : World} {F : Nat → Int} {iv lv dv : Value} {x : Int} {B : Nat} (h : GX w F iv lv dv x wr) (hb : Below B wr w') (hs : w.heap.size + 2 ≤ B) : GX w F iv lv dv x w' :=
  ⟨h.msg.block (hb.block _ (by omega)), there_block h.th (hb.block _ (by omega)), (World.cell?_of_block (a := ⟨w.heap.size + 1, 0, none⟩) (hb.block (w.heap.size + 1) (by omega))).trans h.c3, (World.frozen?_of_block (a := ⟨w.heap.size + 1, 0, none⟩) (hb.block (w.heap.size + 1) (by omega))).trans h.f3, h.bel.trans (hb.mono (by omega))⟩
theorem getW_bad {w wr : World} {F : Nat → Int} {iv lv dv : Value} {x : Int} (h : GX w F iv lv dv x wr) (tmps : Array Value) (h2 : tmps.getD 2 undef = .pointer (some ⟨w.heap.size, 0, none⟩)) (h3 : tmps.getD 3 undef = .pointer (some ⟨w.heap.size + 1, 0, none⟩)) (R : Ending → World → Prop)
    (hR : ∀ w', Below w.heap.size w w' → R (.returned (.tuple #[.agg zL.toArray, .int .i64 2])) w') :
    bodyPostD Try.prog Try.f20 R (.panic wrongW) { tmps := tmps, defers := [{ target := .fn (.func 41) #[.pointer (some ⟨w.heap.size, 0, none⟩), .pointer (some ⟨w.heap.size + 1, 0, none⟩)], args := #[] }] } wr := by
  show Leaves Try.prog Try.f20 tmps R _ (.panicking wrongW) wr
  refine leaves_cons (f := 41) (args := #[.pointer (some ⟨w.heap.size, 0, none⟩), .pointer (some ⟨w.heap.size + 1, 0, none⟩)]) (by simp) (by simp [go_sem]) ?_
  refine (catch_getW w.heap.size (w.heap.size + 1) w.heap.size wr h.th x h.c3 h.f3 (by omega) (Nat.le_refl _) (by omega)).mono ?_
  rintro e u' w'' ⟨rfl, rfl, he, hc, hb⟩
  exact ⟨_, results_getW tmps w'' _ _ h2 h3 _ _ _ _ _ he hc, hR _ (h.bel.trans hb)⟩
theorem getW_good {w wr : World} {F : Nat → Int} {iv lv dv : Value} {x : Int} (h : GX w F iv lv dv x wr) (tmps : Array Value) (h2 : tmps.getD 2 undef = .pointer (some ⟨w.heap.size, 0, none⟩)) (h3 : tmps.getD 3 undef = .pointer (some ⟨w.heap.size + 1, 0, none⟩)) (R : Ending → World → Prop)
    (hR : ∀ w', Below wr.heap.size wr w' → R (.returned (.tuple #[.agg (msgL F iv lv dv).toArray, .int .i64 x])) w') :
    bodyPostD Try.prog Try.f20 R .ret { tmps := tmps, defers := [{ target := .fn (.func 41) #[.pointer (some ⟨w.heap.size, 0, none⟩), .pointer (some ⟨w.heap.size + 1, 0, none⟩)], args := #[] }] } wr := by
  show Leaves Try.prog Try.f20 tmps R _ .returning wr
  refine leaves_cons (f := 41) (args := #[.pointer (some ⟨w.heap.size, 0, none⟩), .pointer (some ⟨w.heap.size + 1, 0, none⟩)]) (by simp) (by simp [go_sem]) ?_
  refine (idle_getW _ _ wr).mono ?_
  rintro e u' w'' ⟨rfl, rfl, hb⟩
  have hlt := h.lt
  have hG := h.grow hb (by omega)
  exact ⟨_, results_getW tmps w'' _ _ h2 h3 _ _ _ _ _ hG.msg hG.c3, hR _ hb⟩
end Go.Proofs.Ytembppihfcclcaa

namespace Go.Proofs.Ytembppihfcclcaa
set_option linter.unusedVariables false
open Go.ChangeShapes Go.WideShapes Go.ChangeAt Go.RowKit

set_option linter.unusedSimpArgs false
theorem sgn_bd (x : Int) (h : 0 ≤ x ∧ x < 256) : -128 ≤ sgn x ∧ sgn x ≤ 127 := by unfold sgn; split <;> omega
theorem entB_g {bs : List Int} (hby : ByteL bs) : EntB (gFr bs) (gN bs) (gE bs) (gI bs) := by
  constructor
  · have h0 := hby 0
    have h1 := hby 1
    have h2 := hby 2
    have h3 := hby 3
    unfold gFr; omega
  · intro i hi j hj
    have c0 := hby (5 + 5 * i)
    have c1 := hby (5 + 5 * i + 1)
    have c2 := hby (5 + 5 * i + 2)
    have c3 := hby (5 + 5 * i + 3)
    have c4 := hby (5 + 5 * i + 4)
    rcases (by omega : j = 0 ∨ j = 1 ∨ j = 2 ∨ j = 3) with rfl | rfl | rfl | rfl
    · show _ ≤ zz bs (5 + 5 * i) ∧ zz bs (5 + 5 * i) ≤ _; omega
    · show _ ≤ zz bs (5 + 5 * i + 1) ∧ zz bs (5 + 5 * i + 1) ≤ _; omega
    · show _ ≤ zz bs (5 + 5 * i + 2) + zz bs (5 + 5 * i + 3) * 256 ∧ zz bs (5 + 5 * i + 2) + zz bs (5 + 5 * i + 3) * 256 ≤ _; omega
    · show _ ≤ zz bs (5 + 5 * i + 4) ∧ zz bs (5 + 5 * i + 4) ≤ _; omega
  · intro j hj h3
    unfold gI
    split
    · have := hby (6 + 5 * gN bs + 3 * gcnt (gM bs) (j / 3) + j % 3)
      unfold sgn
      split <;> omega
    · omega
  · intro j hj h3
    unfold gI
    split
    · have := hby (6 + 5 * gN bs + 3 * gcnt (gM bs) (j / 3) + j % 3)
      omega
    · omega
/-- The numbers of what bytes say. -/
theorem msgB_prs {bs : List Int} (h : ByteL bs) : MsgB (prsM bs) := by
  constructor
  · exact ⟨leV_nn h 2 2, (leV_lt h 2).2.1⟩
  · exact ⟨leV_nn h 4 2, (leV_lt h 4).2.1⟩
  · exact ⟨leV_nn h 6 4, (leV_lt h 6).2.2.1⟩
  · exact ⟨(gV_bd h 6).1, (gV_bd h 6).2.1 (by decide)⟩
  · exact ⟨(gV_bd h 7).1, (gV_bd h 7).2.2⟩
  · intro i hi
    show 0 ≤ gIn bs (i * 3 + 2) ∧ gIn bs (i * 3 + 2) ≤ 255
    unfold gIn
    rw [if_pos (by omega)]
    have := h (gQi bs + (i * 3 + 2))
    omega
  · intro i hi
    show (-128 ≤ gIn bs (i * 3) ∧ gIn bs (i * 3) ≤ 127) ∧ (-128 ≤ gIn bs (i * 3 + 1) ∧ gIn bs (i * 3 + 1) ≤ 127)
    unfold gIn
    rw [if_neg (by omega), if_neg (by omega)]
    exact ⟨sgn_bd _ (h _), sgn_bd _ (h _)⟩
  · intro i hi
    exact entB_g (eBy_by h _)
  · show ByteL (gDt bs)
    unfold gDt
    rw [byteL_iff] at h ⊢
    exact fun x hx => h x (List.mem_of_mem_drop (List.mem_of_mem_take hx))
theorem ByteL.drop {bs : List Int} (h : ByteL bs) (k : Nat) : ByteL (bs.drop k) := by
  rw [byteL_iff] at h ⊢
  exact fun x hx => h x (List.mem_of_mem_drop hx)
theorem putM_by {M : Msg} (hm : MsgB M) : ByteL (putM M) := by
  rw [putM_eq, byteL_iff]
  intro x hx
  rcases List.mem_append.1 hx with hx | hx
  · exact leB_by _ _ x hx
  · exact byteL_iff.1 (bodyM_by hm) x hx
/-- Is the sum right? Does what stands behind it say a message, and is it that one's bytes? -/
def SumOk (bs : List Int) : Prop := 4 ≤ bs.length ∧ leV bs 0 4 = ((crc (bs.drop 4) (bs.drop 4).length : Nat) : Int)
def OkM (bs : List Int) : Prop := POk (bs.drop 4) ∧ mayM (prsM (bs.drop 4)) = true ∧ (putM (prsM (bs.drop 4))).length ≤ 1200 ∧ putM (prsM (bs.drop 4)) = bs
def GetQ (bs : List Int) (e : Ending) (w' : World) : Prop :=
  (¬ SumOk bs ∧ e = .returned (.tuple #[.agg zL.toArray, .int .i64 9])) ∨
  (SumOk bs ∧ ¬ OkM bs ∧ e = .returned (.tuple #[.agg zL.toArray, .int .i64 2])) ∨
  (SumOk bs ∧ OkM bs ∧ ∃ iv lv dv, e = .returned (.tuple #[.agg (msgL (gF (bs.drop 4)) iv lv dv).toArray, .int .i64 0]) ∧ RowsV w' iv lv dv (prsM (bs.drop 4)))
theorem rdW_set (T : Nat) (vs : List Value) (w : World) : RdW T w (w.setCells T 0 vs) := by
  have hb := below_setCells (B := T) T (Nat.le_refl _) vs 0 (Below.refl T w)
  exact ⟨hb.os, hb.tape, hb.output, hb.size, fun k hk hne => setCells_other T k hne vs 0 w⟩
theorem rwAt_new {w : World} {b o n C : Nat} (hc : n ≤ C) (hm : C ≤ maxLen) : RwAt (w.alloc (Obj.cells #[.slice (some ⟨b, o, none⟩) n C] 79)) w.heap.size b o n C 0 := by
  refine ⟨⟨⟨b, o, none⟩, ?_, fun _ => rfl⟩, by rw [World.frozen?_alloc_new], Nat.zero_le _, hc, hm⟩
  rw [World.cell?_alloc_new]; rfl
theorem BytesAt.drop {w : World} {b o : Nat} {bs : List Int} (h : BytesAt w b o bs) (k : Nat) : BytesAt w b (o + k) (bs.drop k) := by
  intro j hj
  rw [List.length_drop] at hj
  have := h (k + j) (by omega)
  rw [show o + k + j = o + (k + j) by omega, this]
  congr 2
  rw [List.getD_eq_getElem?_getD, List.getD_eq_getElem?_getD, List.getElem?_drop]
section
variable {w wr w' : World} {F : Nat → Int} {iv lv dv : Value} {x : Int}
/-- A message into Get's result. -/
theorem GX.put (h : GX w F iv lv dv x wr) (F' : Nat → Int) (iv' lv' dv' : Value) : GX w F' iv' lv' dv' x (wr.setCells w.heap.size 0 (msgL F' iv' lv' dv')) := by
  have hat := msgAt_stored h.th F' iv' lv' dv'
  have hoth : ∀ k, k ≠ w.heap.size → (wr.setCells w.heap.size 0 (msgL F' iv' lv' dv')).heap[k]? = wr.heap[k]? := fun k hk => setCells_other w.heap.size k hk _ _ _
  have hfz : ∀ x, (wr.setCells w.heap.size 0 (msgL F' iv' lv' dv')).frozen? x = wr.frozen? x := fun x => World.frozen?_setCells w.heap.size (msgL F' iv' lv' dv') 0 wr x
  have hbb := below_setCells w.heap.size (Nat.le_refl _) (msgL F' iv' lv' dv') 0 h.bel
  generalize wr.setCells w.heap.size 0 (msgL F' iv' lv' dv') = w2 at *
  have hth : w2.there w.heap.size 0 16 := fun j hj => by
    have h1 := hat.cell j hj
    have h2 := (h.th j hj).2
    rw [Nat.zero_add] at h2 ⊢
    exact ⟨by rw [h1]; rfl, by rw [hfz]; exact h2⟩
  exact ⟨hat, hth, (World.cell?_of_block (hoth (w.heap.size + 1) (by omega))).trans h.c3, (World.frozen?_of_block (hoth (w.heap.size + 1) (by omega))).trans h.f3, hbb⟩
theorem GX.code (h : GX w F iv lv dv x wr) (y : Int) : GX w F iv lv dv y (wr.setCell ⟨w.heap.size + 1, 0, none⟩ (.int .i64 y)) :=
  ⟨h.msg.block (Below.heap_setCell _ _ _ _ (by show w.heap.size ≠ w.heap.size + 1; omega)), there_block h.th (Below.heap_setCell _ _ _ _ (by show w.heap.size ≠ w.heap.size + 1; omega)), World.cell?_setCell_same _ _ _ h.c3, by rw [World.frozen?_setCell]; exact h.f3, h.bel.setCell (p := ⟨w.heap.size + 1, 0, none⟩) (by show w.heap.size ≤ w.heap.size + 1; omega) _⟩
theorem GX.drew (h : GX w F iv lv dv x wr) : GX w F iv lv dv x wr.drew := h.grow ((Below.refl wr.heap.size wr).drew) (by have := h.lt; omega)
end
theorem gx_start (w : World) : GX w zF (.slice none 0 0) (.slice none 0 0) (.slice none 0 0) 0 ((w.alloc (Obj.cells #[.int .i64 0, .int .i64 0, .int .u16 0, .int .u16 0, .int .u32 0, .int .i64 0, .int .i64 0, .int .i64 0, .int .i64 0, .int .i64 0, .int .i64 0, .int .u32 0, .int .u64 0, .slice none 0 0, .slice none 0 0, .slice none 0 0] 30)).alloc (Obj.cells #[.int .i64 0] 3)) := by
  have e1 : MsgAt (w.alloc (Obj.cells #[.int .i64 0, .int .i64 0, .int .u16 0, .int .u16 0, .int .u32 0, .int .i64 0, .int .i64 0, .int .i64 0, .int .i64 0, .int .i64 0, .int .i64 0, .int .u32 0, .int .u64 0, .slice none 0 0, .slice none 0 0, .slice none 0 0] 30)) w.heap.size zF (.slice none 0 0) (.slice none 0 0) (.slice none 0 0) := msgAt_new zF (.slice none 0 0) (.slice none 0 0) (.slice none 0 0) 30 w
  have t1 := there_msgZ w
  have s1 : (w.alloc (Obj.cells #[.int .i64 0, .int .i64 0, .int .u16 0, .int .u16 0, .int .u32 0, .int .i64 0, .int .i64 0, .int .i64 0, .int .i64 0, .int .i64 0, .int .i64 0, .int .u32 0, .int .u64 0, .slice none 0 0, .slice none 0 0, .slice none 0 0] 30)).heap.size = w.heap.size + 1 := by simp
  have b1 := (Below.refl w.heap.size w).alloc (Nat.le_refl _) (Obj.cells #[.int .i64 0, .int .i64 0, .int .u16 0, .int .u16 0, .int .u32 0, .int .i64 0, .int .i64 0, .int .i64 0, .int .i64 0, .int .i64 0, .int .i64 0, .int .u32 0, .int .u64 0, .slice none 0 0, .slice none 0 0, .slice none 0 0] 30)
  generalize w.alloc (Obj.cells #[.int .i64 0, .int .i64 0, .int .u16 0, .int .u16 0, .int .u32 0, .int .i64 0, .int .i64 0, .int .i64 0, .int .i64 0, .int .i64 0, .int .i64 0, .int .u32 0, .int .u64 0, .slice none 0 0, .slice none 0 0, .slice none 0 0] 30) = w1 at *
  have k2 := Below.heap_alloc w1 (Obj.cells #[.int .i64 0] 3) w.heap.size (by omega)
  refine ⟨e1.block k2, there_block t1 k2, ?_, ?_, b1.alloc b1.size _⟩
  · rw [← s1, World.cell?_alloc_new]; rfl
  · rw [← s1, World.frozen?_alloc_new]
end Go.Proofs.Ytembppihfcclcaa

namespace Go.Proofs.Ytembppihfcclcaa
set_option linter.unusedVariables false
open Go.ChangeShapes Go.WideShapes Go.ChangeAt Go.RowKit

set_option linter.unusedSimpArgs false
/-- Two messages that say the same. -/
structure ELike (x y : Ent) : Prop where
  fr : x.fr = y.fr
  n : x.n = y.n
  e : ∀ i, i < x.n → x.E i 0 = y.E i 0 ∧ x.E i 1 = y.E i 1 ∧ x.E i 2 = y.E i 2 ∧ x.E i 3 = y.E i 3
  i : ∀ k, k < 24 → x.I k = y.I k
structure MLike (M N : Msg) : Prop where
  f : ∀ k, k < 13 → M.F k = N.F k
  ni : M.ni = N.ni
  i : ∀ k, k < 3 * M.ni → M.I k = N.I k
  nl : M.nl = N.nl
  l : ∀ m, m < M.nl → ELike (M.D m) (N.D m)
  d : M.d = N.d
theorem ELike.put {x y : Ent} (h : ELike x y) : entW x = entW y ∧ mayD x = mayD y ∧ sameD x y = true := putB_congr h.fr h.n h.e h.i
theorem inpsW_congr {I I' : Nat → Int} : ∀ n, (∀ k, k < 3 * n → I k = I' k) → inpsW I n = inpsW I' n
  | 0, _ => rfl
  | n + 1, h => by
    unfold inpsW
    rw [inpsW_congr n (fun k hk => h k (by omega))]
    unfold inp3
    rw [h (n * 3) (by omega), h (n * 3 + 1) (by omega), h (n * 3 + 2) (by omega)]
theorem logW_congr {D D' : Nat → Ent} : ∀ n, (∀ m, m < n → ELike (D m) (D' m)) → logW D n = logW D' n
  | 0, _ => rfl
  | n + 1, h => by
    unfold logW
    rw [logW_congr n (fun k hk => h k (by omega)), (h n (by omega)).put.1]
theorem logOk_congr {fr fr' : Int} {D D' : Nat → Ent} (hf : fr = fr') : ∀ n, (∀ m, m < n → ELike (D m) (D' m)) → logOk fr D n = logOk fr' D' n
  | 0, _ => rfl
  | n + 1, h => by
    unfold logOk
    rw [logOk_congr hf n (fun k hk => h k (by omega)), (h n (by omega)).put.2.1, (h n (by omega)).fr, hf]
theorem pt_congr {M N : Msg} (h : M.F 0 = N.F 0) (j : Nat) {n n' : Int} (hn : n = n') (c : Nat) : pt M j n c = pt N j n' c := by unfold pt; rw [h, hn]
theorem MLike.body {M N : Msg} (h : MLike M N) : pS19 M = pS19 N := by
  have f0 := h.f 0 (by omega)
  have e0 : pS0 M = pS0 N := rfl
  have e1 : pS1 M = pS1 N := by rw [pS1, pS1, e0, f0]
  have e2 : pS2 M = pS2 N := by rw [pS2, pS2, e1, h.f 1 (by omega)]
  have e3 : pS3 M = pS3 N := by rw [pS3, pS3, e2, h.f 2 (by omega)]
  have e4 : pS4 M = pS4 N := by rw [pS4, pS4, e3, h.f 3 (by omega)]
  have e5 : pS5 M = pS5 N := by rw [pS5, pS5, e4, h.f 4 (by omega)]
  have e6 : pS6 M = pS6 N := by rw [pS6, pS6, e5, pt_congr f0 0 (h.f 5 (by omega)) 1]
  have e7 : pS7 M = pS7 N := by rw [pS7, pS7, e6, pt_congr f0 1 (h.f 6 (by omega)) 2]
  have e8 : pS8 M = pS8 N := by rw [pS8, pS8, e7, pt_congr f0 2 (h.f 7 (by omega)) 4]
  have e9 : pS9 M = pS9 N := by rw [pS9, pS9, e8, pt_congr f0 3 (h.f 8 (by omega)) 1]
  have e10 : pS10 M = pS10 N := by rw [pS10, pS10, e9, pt_congr f0 4 (h.f 9 (by omega)) 2]
  have e11 : pS11 M = pS11 N := by rw [pS11, pS11, e10, pt_congr f0 5 (h.f 10 (by omega)) 2]
  have e12 : pS12 M = pS12 N := by rw [pS12, pS12, e11, pt_congr f0 6 (h.f 11 (by omega)) 4]
  have e13 : pS13 M = pS13 N := by rw [pS13, pS13, e12, pt_congr f0 7 (h.f 12 (by omega)) 8]
  have e14 : pS14 M = pS14 N := by rw [pS14, pS14, e13, pt_congr f0 8 (congrArg _ h.ni) 1]
  have e15 : pS15 M M.ni = pS15 N N.ni := by rw [pS15, pS15, e14, inpsW_congr M.ni h.i, h.ni]
  have e16 : pS16 M = pS16 N := by rw [pS16, pS16, e15, pt_congr f0 9 (congrArg _ h.nl) 1]
  have e17 : pS17 M M.nl = pS17 N N.nl := by rw [pS17, pS17, e16, logW_congr M.nl h.l, h.nl]
  have e18 : pS18 M = pS18 N := by rw [pS18, pS18, e17, pt_congr f0 10 (by rw [h.d]) 1]
  rw [pS19, pS19, e18, h.d]
theorem MLike.put {M N : Msg} (h : MLike M N) : bodyM M = bodyM N ∧ putM M = putM N := by
  have e : bodyM M = bodyM N := by rw [bodyM, bodyM, h.body]
  exact ⟨e, by rw [putM_eq, putM_eq, e]⟩
theorem MLike.may {M N : Msg} (h : MLike M N) : mayM M = mayM N := by
  unfold mayM
  rw [h.f 0 (by omega), h.f 1 (by omega), h.f 5 (by omega), h.f 6 (by omega), h.f 7 (by omega), h.f 8 (by omega), h.f 9 (by omega), h.f 10 (by omega), h.f 11 (by omega), h.f 12 (by omega), h.d, logOk_congr rfl M.nl h.l, inpAll_congr M.ni h.i, h.ni, h.nl]
/-! Reading along a list that begins with what was written. -/
theorem pre_zz {s r : List Int} (j i : Nat) (h : i < s.length) (e : j = i) : zz (s ++ r) j = zz s i := by subst e; exact zz_app_l s r j h
theorem emod_split (n P : Int) (hP : 0 < P) : n % P + n / P % 256 * P = n % (P * 256) := by
  have h1 := Int.mul_ediv_add_emod n P
  have h2 := Int.mul_ediv_add_emod (n / P) 256
  have b1 := Int.emod_nonneg n (show P ≠ 0 by omega)
  have b2 := Int.emod_lt_of_pos n hP
  have b3 := Int.emod_nonneg (n / P) (show (256 : Int) ≠ 0 by omega)
  have b4 := Int.emod_lt_of_pos (n / P) (show (0 : Int) < 256 by omega)
  generalize n % P = r at *
  generalize n / P = q at *
  generalize q % 256 = s at *
  generalize q / 256 = t at *
  have e : n = (r + s * P) + P * 256 * t := by rw [← h1, ← h2, Int.mul_add, Int.mul_comm s P, Int.mul_assoc]; omega
  rw [e, Int.add_mul_emod_self_left]
  have h5 : s * P ≤ 255 * P := Int.mul_le_mul_of_nonneg_right (by omega) (by omega)
  have h6 : 0 ≤ s * P := Int.mul_nonneg b3 (by omega)
  exact (Int.emod_eq_of_lt (by omega) (by omega)).symm
theorem shN_div (n : Int) : ∀ c, shN n c = n / 256 ^ c
  | 0 => by show n = n / 1; omega
  | c + 1 => by show shN n c / 256 = n / (256 ^ c * 256); rw [shN_div n c, Int.ediv_ediv_of_nonneg (Int.le_of_lt (Int.pow_pos (by omega)))]
theorem leV_leB (n : Int) : ∀ c (s r : List Int), leV (s ++ leB n c ++ r) s.length c = n % 256 ^ c
  | 0, s, r => by show (0 : Int) = n % 1; omega
  | c + 1, s, r => by
    show leV (s ++ (leB n c ++ [shN n c % 256]) ++ r) s.length c + zz (s ++ (leB n c ++ [shN n c % 256]) ++ r) (s.length + c) * 256 ^ c = n % (256 ^ c * 256)
    have e1 : s ++ (leB n c ++ [shN n c % 256]) ++ r = s ++ leB n c ++ ([shN n c % 256] ++ r) := by simp only [List.append_assoc]
    rw [e1, leV_leB n c s _, zz_app_r _ _ (s.length + c) 0 (by rw [List.length_append, leB_len, Nat.add_zero])]
    show n % 256 ^ c + shN n c % 256 * 256 ^ c = _
    rw [shN_div]
    exact emod_split n _ (Int.pow_pos (by omega))
theorem rd_num {T s r : List Int} (n : Int) (c : Nat) (e : T = s ++ leB n c ++ r) (h0 : 0 ≤ n) (h1 : n < 256 ^ c) : leV T s.length c = n := by
  rw [e, leV_leB n c s r]
  exact Int.emod_eq_of_lt h0 h1
theorem zz_dropW (bs : List Int) (p j : Nat) : zz (bs.drop p) j = zz bs (p + j) := by
  unfold zz
  rw [List.getD_eq_getElem?_getD, List.getD_eq_getElem?_getD, List.getElem?_drop]
theorem leV_drop (T : List Int) (k : Nat) : ∀ c i, leV (T.drop k) i c = leV T (k + i) c
  | 0, _ => rfl
  | c + 1, i => by
    show leV (T.drop k) i c + zz (T.drop k) (i + c) * 256 ^ c = leV T (k + i) c + zz T (k + i + c) * 256 ^ c
    rw [leV_drop T k c i, zz_dropW, Nat.add_assoc]
theorem zz_inpsW (I : Nat → Int) (r : Nat) (hr : r < 3) : ∀ n i, i < n → zz (inpsW I n) (3 * i + r) = zz (inp3 I i) r
  | 0, i, h => by omega
  | n + 1, i, h => by
    unfold inpsW
    by_cases e : i = n
    · subst e
      exact zz_app_r _ _ _ r (by rw [inpsW_len])
    · rw [zz_app_l _ _ _ (by rw [inpsW_len]; omega)]
      exact zz_inpsW I r hr n i (by omega)
theorem take_mid (s x r : List Int) : ((s ++ x ++ r).drop s.length).take x.length = x := by
  rw [List.append_assoc, List.drop_left, List.take_left]
/-- Each stretch of what Put writes. -/
theorem pre_logW (M : Msg) (D : Nat → Ent) (s : List Int) : ∀ n m, m < n → ∃ r, s ++ logW D n = (s ++ logW D m) ++ leB (entW (D m)).length 2 ++ entW (D m) ++ r
  | 0, m, h => by omega
  | n + 1, m, h => by
    by_cases e : m = n
    · subst e
      refine ⟨[], ?_⟩
      rw [List.append_nil]
      show s ++ (logW D m ++ leB (entW (D m)).length 2 ++ entW (D m)) = _
      simp only [List.append_assoc]
    · obtain ⟨r, hr⟩ := pre_logW M D s n m (by omega)
      refine ⟨r ++ (leB (entW (D n)).length 2 ++ entW (D n)), ?_⟩
      show s ++ (logW D n ++ leB (entW (D n)).length 2 ++ entW (D n)) = _
      have e2 : s ++ (logW D n ++ leB (entW (D n)).length 2 ++ entW (D n)) = (s ++ logW D n) ++ (leB (entW (D n)).length 2 ++ entW (D n)) := by simp only [List.append_assoc]
      rw [e2, hr]
      simp only [List.append_assoc]
end Go.Proofs.Ytembppihfcclcaa

namespace Go.Proofs.Ytembppihfcclcaa
set_option linter.unusedVariables false
open Go.ChangeShapes Go.WideShapes Go.ChangeAt Go.RowKit

set_option linter.unusedSimpArgs false
theorem leV_front (bs : List Int) : ∀ c i, leV bs i (c + 1) = zz bs i + 256 * leV bs (i + 1) c
  | 0, i => by
    show (0 : Int) + zz bs (i + 0) * 256 ^ 0 = zz bs i + 256 * 0
    rw [Nat.add_zero, Int.pow_zero]
    omega
  | c + 1, i => by
    show leV bs i (c + 1) + zz bs (i + (c + 1)) * 256 ^ (c + 1) = zz bs i + 256 * (leV bs (i + 1) c + zz bs (i + 1 + c) * 256 ^ c)
    rw [leV_front bs c i, show i + (c + 1) = i + 1 + c by omega, Int.pow_succ, Int.mul_add, Int.add_assoc]
    congr 2
    rw [Int.mul_comm (256 ^ c) 256, ← Int.mul_assoc, Int.mul_comm (zz bs (i + 1 + c)) 256, Int.mul_assoc]
theorem hvv_leV (l : List Int) : ∀ m k, hvv l m k = leV l k m
  | 0, k => rfl
  | m + 1, k => by
    show hvv l m (k + 1) * 256 + zz l k = _
    rw [hvv_leV l m (k + 1), leV_front l m k]
    omega
/-- The reader has come to place p of the bytes, or they are no message's. -/
def TrkM (bs : List Int) (p : Nat) (l : List Int) (bad : Bool) : Prop := ByteL l ∧ l.length ≤ 1000000 ∧ (bad = false → l = bs.drop p ∧ p ≤ bs.length) ∧ (bad = true → ¬ POk bs)
theorem TrkM.any {bs l : List Int} {p : Nat} (q : Nat) (h : TrkM bs p l true) : TrkM bs q l true := ⟨h.1, h.2.1, fun h => (by cases h), h.2.2.2⟩
theorem nilTrk {bs : List Int} (p : Nat) (h : ¬ POk bs) : TrkM bs p [] true := ⟨fun i => by unfold zz; simp, by simp, fun h => (by cases h), fun _ => h⟩
theorem rNum_trkM (R : Nat) (bs l : List Int) (bad : Bool) (p n : Nat) (hn : 0 < n ∧ n ≤ 8) (w : World) (h : RG w R l bad) (ht : TrkM bs p l bad) (hT : bad = false → bs.length < p + n → ¬ POk bs) :
    Calls Try.prog 46 #[.pointer (some ⟨R, 0, none⟩), .int .i64 n] w fun e w' => ∃ v l' bad', e = .returned (.int .u64 v) ∧ RG w' R l' bad' ∧ TrkM bs (p + n) l' bad' ∧ (bad' = false → bad = false ∧ v = leV bs p n) ∧ (0 ≤ v ∧ v < 256 ^ n) ∧ Rd R w w' := by
  obtain ⟨h1, h2, h3, h4⟩ := ht
  by_cases hg : bad = false ∧ n ≤ l.length
  · obtain ⟨rfl, hl⟩ := hg
    refine (rNum8_good R l n hn w h h1 hl h2).mono ?_
    rintro e w' ⟨rfl, hr, ho⟩
    obtain ⟨e1, e2⟩ := h3 rfl
    refine ⟨_, _, _, rfl, hr, ⟨h1.dropE n, by rw [List.length_drop]; omega, fun _ => ⟨by rw [e1, List.drop_drop], ?_⟩, fun h => (by cases h)⟩, fun _ => ⟨rfl, ?_⟩, hvv_bd h1 n 0, ho.rd⟩
    · rw [e1, List.length_drop] at hl
      omega
    · rw [hvv_leV, e1, leV_drop, Nat.add_zero]
  · refine (rNum8_bad R l bad n (by omega) w h ?_).mono ?_
    · cases bad with
      | true => exact Or.inl rfl
      | false => exact Or.inr (by have : ¬ n ≤ l.length := fun h => hg ⟨rfl, h⟩; omega)
    · rintro e w' ⟨rfl, hr, ho⟩
      refine ⟨_, _, _, rfl, hr, nilTrk _ ?_, fun h => (by cases h), ⟨Int.le_refl _, Int.pow_pos (by omega)⟩, ho.rd⟩
      cases bad with
      | true => exact h4 rfl
      | false =>
        obtain ⟨e1, e2⟩ := h3 rfl
        refine hT rfl ?_
        have : ¬ n ≤ l.length := fun h => hg ⟨rfl, h⟩
        rw [e1, List.length_drop] at this
        omega
theorem rInt_trkM (R : Nat) (bs l : List Int) (bad : Bool) (p n : Nat) (hn : 0 < n ∧ n ≤ 4) (w : World) (h : RG w R l bad) (ht : TrkM bs p l bad) (hT : bad = false → bs.length < p + n → ¬ POk bs) :
    Calls Try.prog 45 #[.pointer (some ⟨R, 0, none⟩), .int .i64 n] w fun e w' => ∃ v l' bad', e = .returned (.int .i64 v) ∧ RG w' R l' bad' ∧ TrkM bs (p + n) l' bad' ∧ (bad' = false → bad = false ∧ v = leV bs p n) ∧ (0 ≤ v ∧ v < 256 ^ n) ∧ Rd R w w' := by
  go_enter Try.func45, Try.ntmps45
  go_wp2_with fail
  refine (rNum_trkM R bs l bad p n (by omega) w h ht hT).mono ?_
  rintro e w' ⟨v, l', bad', rfl, h2, h3, h4, h5, h6⟩
  have hp : (256 : Int) ^ n ≤ 4294967296 := by
    rcases (by omega : n = 1 ∨ n = 2 ∨ n = 3 ∨ n = 4) with e | e | e | e <;> rw [e] <;> decide
  have hv := IntWalk.i64_in v (by omega)
  have H2 := Lib.hid h2
  have H3 := Lib.hid h3
  have H4 := Lib.hid h4
  have H5 := Lib.hid h5
  have H6 := Lib.hid h6
  clear h2 h3 h4 h6
  go_wp2_with fail
  go_ret
  exact ⟨v, l', bad', by first | rfl | rw [hv], H2.out, H3.out, H4.out, H5.out, H6.out⟩
theorem rSome_trkM (R : Nat) (bs l : List Int) (bad : Bool) (p : Nat) (v : Int) (hv : 0 ≤ v) (w : World) (h : RG w R l bad) (ht : TrkM bs p l bad) (hT : bad = false → bs.length < p + v.toNat → ¬ POk bs) :
    Calls Try.prog 62 #[.pointer (some ⟨R, 0, none⟩), .int .i64 v] w fun e w' => ∃ s l' bad', e = .returned (.string (strOfNums s)) ∧ RG w' R l' bad' ∧ TrkM bs (p + v.toNat) l' bad' ∧ (bad' = false → bad = false ∧ s = (bs.drop p).take v.toNat ∧ p + v.toNat ≤ bs.length) ∧ (bad' = true → s = []) ∧ ByteL s ∧ s.length ≤ 1000000 ∧ Rd R w w' := by
  obtain ⟨n, rfl⟩ : ∃ n : Nat, v = n := ⟨v.toNat, by omega⟩
  rw [Int.toNat_natCast] at hT ⊢
  obtain ⟨h1, h2, h3, h4⟩ := ht
  by_cases hg : bad = false ∧ n ≤ l.length
  · obtain ⟨rfl, hl⟩ := hg
    refine (rSome_good R l n w h hl h2).mono ?_
    rintro e w' ⟨rfl, hr, ho⟩
    obtain ⟨e1, e2⟩ := h3 rfl
    have hle : p + n ≤ bs.length := by rw [e1, List.length_drop] at hl; omega
    refine ⟨_, _, _, rfl, hr, ⟨h1.dropE n, by rw [List.length_drop]; omega, fun _ => ⟨by rw [e1, List.drop_drop], hle⟩, fun h => (by cases h)⟩, fun _ => ⟨rfl, by rw [e1], hle⟩, fun h => (by cases h), ?_, by rw [List.length_take]; omega, ho.rd⟩
    rw [byteL_iff] at h1 ⊢
    exact fun x hx => h1 x (List.mem_of_mem_take hx)
  · refine (rSome_bad R l bad n w h ?_).mono ?_
    · cases bad with
      | true => exact Or.inl rfl
      | false => exact Or.inr (by have : ¬ n ≤ l.length := fun h => hg ⟨rfl, h⟩; omega)
    · rintro e w' ⟨rfl, hr, ho⟩
      refine ⟨_, _, _, rfl, hr, nilTrk _ ?_, fun h => (by cases h), fun _ => rfl, fun i => by unfold zz; simp, by simp, ho.rd⟩
      cases bad with
      | true => exact h4 rfl
      | false =>
        obtain ⟨e1, e2⟩ := h3 rfl
        refine hT rfl ?_
        have : ¬ n ≤ l.length := fun h => hg ⟨rfl, h⟩
        rw [e1, List.length_drop] at this
        omega
end Go.Proofs.Ytembppihfcclcaa

namespace Go.Proofs.Ytembppihfcclcaa
set_option linter.unusedVariables false
open Go.ChangeShapes Go.WideShapes Go.ChangeAt Go.RowKit

set_option linter.unusedSimpArgs false
/-- The letters of a kind's parts. -/
def pkL (k : Int) : List Nat := if k = 2 then [115, 103, 102] else if k = 3 then [99] else if k = 10 then [99] else if k = 4 then [115, 103, 102, 105] else if k = 5 then [102, 108] else if k = 6 then [102] else if k = 7 then [102, 110, 111, 109, 100] else if k = 8 then [110, 98] else if k = 11 then [110] else if k = 12 then [110] else if k = 13 then [102, 109] else []
def pkS (k : Int) : ByteArray := ⟨((pkL k).map UInt8.ofNat).toArray⟩
def ltr (j : Nat) : Nat := if j = 0 then 115 else if j = 1 then 103 else if j = 2 then 102 else if j = 3 then 99 else if j = 4 then 110 else if j = 5 then 111 else if j = 6 then 98 else if j = 7 then 109 else if j = 8 then 105 else if j = 9 then 108 else 100
theorem pkL_no (k : Int) (h : k ≠ 1 ∧ k ≠ 2 ∧ k ≠ 3 ∧ k ≠ 4 ∧ k ≠ 5 ∧ k ≠ 6 ∧ k ≠ 7 ∧ k ≠ 8 ∧ k ≠ 9 ∧ k ≠ 10 ∧ k ≠ 11 ∧ k ≠ 12 ∧ k ≠ 13 ∧ k ≠ 14) : pkL k = [] := by
  obtain ⟨h1, h2, h3, h4, h5, h6, h7, h8, h9, h10, h11, h12, h13, h14⟩ := h
  unfold pkL
  rw [if_neg h2, if_neg h3, if_neg h10, if_neg h4, if_neg h5, if_neg h6, if_neg h7, if_neg h8, if_neg h11, if_neg h12, if_neg h13]
theorem pkL_all (p : Int → Bool) (h0 : ∀ k, pkL k = [] → p k = true) (h : (List.range 15).all (fun k => p (k : Nat)) = true) (k : Int) : p k = true := by
  have hk : ∀ n : Nat, n < 15 → p (n : Nat) = true := fun n hn => List.all_eq_true.1 h n (List.mem_range.2 hn)
  rcases kind_cases k with rfl | rfl | rfl | rfl | rfl | rfl | rfl | rfl | rfl | rfl | rfl | rfl | rfl | rfl | hh
  · exact hk 1 (by omega)
  · exact hk 2 (by omega)
  · exact hk 3 (by omega)
  · exact hk 4 (by omega)
  · exact hk 5 (by omega)
  · exact hk 6 (by omega)
  · exact hk 7 (by omega)
  · exact hk 8 (by omega)
  · exact hk 9 (by omega)
  · exact hk 10 (by omega)
  · exact hk 11 (by omega)
  · exact hk 12 (by omega)
  · exact hk 13 (by omega)
  · exact hk 14 (by omega)
  · exact h0 k (pkL_no k hh)
theorem pkL_bd (k : Int) : (pkL k).length ≤ 5 ∧ ∀ x ∈ pkL k, x < 256 := by
  have h := pkL_all (fun k => decide ((pkL k).length ≤ 5) && (pkL k).all (fun x => decide (x < 256))) (fun k hk => by simp only [hk]; rfl) (by kernel_rfl) k
  rw [Bool.and_eq_true, decide_eq_true_eq] at h
  exact ⟨h.1, fun x hx => by simpa using List.all_eq_true.1 h.2 x hx⟩
theorem pkS_size (k : Int) : (pkS k).size = (pkL k).length := by
  unfold pkS
  show (((pkL k).map UInt8.ofNat).toArray).size = _
  rw [List.size_toArray, List.length_map]
theorem pkS_get (k : Int) (i : Nat) (hi : i < (pkL k).length) (h : i < (pkS k).size) : ((pkS k)[i]'h).toNat = (pkL k).getD i 0 := by
  have g : ∀ (L : List UInt8) (h1 : i < (⟨L.toArray⟩ : ByteArray).size) (h2 : i < L.length), (⟨L.toArray⟩ : ByteArray)[i]'h1 = L[i] := fun L h1 h2 => rfl
  have e : (pkS k)[i]'h = UInt8.ofNat ((pkL k)[i]) := (g ((pkL k).map UInt8.ofNat) h (by rw [List.length_map]; exact hi)).trans (List.getElem_map _)
  rw [e, UInt8.toNat_ofNat', Nat.mod_eq_of_lt ((pkL_bd k).2 _ (List.getElem_mem hi)), List.getD_eq_getElem?_getD, List.getElem?_eq_getElem hi]
  rfl
set_option maxHeartbeats 1000000 in
theorem has_any (k : Int) (w : World) : Calls Try.prog 39 #[.int .i64 k] w fun e w' => e = .returned (.string (pkS k)) ∧ w' = w := by
  rcases kind_cases k with rfl | rfl | rfl | rfl | rfl | rfl | rfl | rfl | rfl | rfl | rfl | rfl | rfl | rfl | hh
  · go_enter Try.func39, Try.ntmps39; go_wp2_with fail; go_ret; exact ⟨rfl, rfl⟩
  · go_enter Try.func39, Try.ntmps39; go_wp2_with fail; go_ret; exact ⟨rfl, rfl⟩
  · go_enter Try.func39, Try.ntmps39; go_wp2_with fail; go_ret; exact ⟨rfl, rfl⟩
  · go_enter Try.func39, Try.ntmps39; go_wp2_with fail; go_ret; exact ⟨rfl, rfl⟩
  · go_enter Try.func39, Try.ntmps39; go_wp2_with fail; go_ret; exact ⟨rfl, rfl⟩
  · go_enter Try.func39, Try.ntmps39; go_wp2_with fail; go_ret; exact ⟨rfl, rfl⟩
  · go_enter Try.func39, Try.ntmps39; go_wp2_with fail; go_ret; exact ⟨rfl, rfl⟩
  · go_enter Try.func39, Try.ntmps39; go_wp2_with fail; go_ret; exact ⟨rfl, rfl⟩
  · go_enter Try.func39, Try.ntmps39; go_wp2_with fail; go_ret; exact ⟨rfl, rfl⟩
  · go_enter Try.func39, Try.ntmps39; go_wp2_with fail; go_ret; exact ⟨rfl, rfl⟩
  · go_enter Try.func39, Try.ntmps39; go_wp2_with fail; go_ret; exact ⟨rfl, rfl⟩
  · go_enter Try.func39, Try.ntmps39; go_wp2_with fail; go_ret; exact ⟨rfl, rfl⟩
  · go_enter Try.func39, Try.ntmps39; go_wp2_with fail; go_ret; exact ⟨rfl, rfl⟩
  · go_enter Try.func39, Try.ntmps39; go_wp2_with fail; go_ret; exact ⟨rfl, rfl⟩
  · have e : pkS k = ⟨#[]⟩ := by unfold pkS; rw [pkL_no k hh]; rfl
    rw [e]
    obtain ⟨h1, h2, h3, h4, h5, h6, h7, h8, h9, h10, h11, h12, h13, h14⟩ := hh
    clear e
    go_enter Try.func39, Try.ntmps39; go_wp2_with fail; go_ret; exact ⟨rfl, rfl⟩
/-- Has a kind a part, by its letter? -/
def wB (k : Int) (c : Nat) : Bool := (pkL k).any (fun x => x == c)
theorem wB_has (k : Int) (j : Nat) (hj : j < 11) : wB k (ltr j) = hasB k j := by
  rcases kind_cases k with rfl | rfl | rfl | rfl | rfl | rfl | rfl | rfl | rfl | rfl | rfl | rfl | rfl | rfl | hh
  · exact eq_of_beq (List.all_eq_true.1 (show (List.range 11).all (fun j => wB 1 (ltr j) == hasB 1 j) = true by kernel_rfl) j (List.mem_range.2 hj))
  · exact eq_of_beq (List.all_eq_true.1 (show (List.range 11).all (fun j => wB 2 (ltr j) == hasB 2 j) = true by kernel_rfl) j (List.mem_range.2 hj))
  · exact eq_of_beq (List.all_eq_true.1 (show (List.range 11).all (fun j => wB 3 (ltr j) == hasB 3 j) = true by kernel_rfl) j (List.mem_range.2 hj))
  · exact eq_of_beq (List.all_eq_true.1 (show (List.range 11).all (fun j => wB 4 (ltr j) == hasB 4 j) = true by kernel_rfl) j (List.mem_range.2 hj))
  · exact eq_of_beq (List.all_eq_true.1 (show (List.range 11).all (fun j => wB 5 (ltr j) == hasB 5 j) = true by kernel_rfl) j (List.mem_range.2 hj))
  · exact eq_of_beq (List.all_eq_true.1 (show (List.range 11).all (fun j => wB 6 (ltr j) == hasB 6 j) = true by kernel_rfl) j (List.mem_range.2 hj))
  · exact eq_of_beq (List.all_eq_true.1 (show (List.range 11).all (fun j => wB 7 (ltr j) == hasB 7 j) = true by kernel_rfl) j (List.mem_range.2 hj))
  · exact eq_of_beq (List.all_eq_true.1 (show (List.range 11).all (fun j => wB 8 (ltr j) == hasB 8 j) = true by kernel_rfl) j (List.mem_range.2 hj))
  · exact eq_of_beq (List.all_eq_true.1 (show (List.range 11).all (fun j => wB 9 (ltr j) == hasB 9 j) = true by kernel_rfl) j (List.mem_range.2 hj))
  · exact eq_of_beq (List.all_eq_true.1 (show (List.range 11).all (fun j => wB 10 (ltr j) == hasB 10 j) = true by kernel_rfl) j (List.mem_range.2 hj))
  · exact eq_of_beq (List.all_eq_true.1 (show (List.range 11).all (fun j => wB 11 (ltr j) == hasB 11 j) = true by kernel_rfl) j (List.mem_range.2 hj))
  · exact eq_of_beq (List.all_eq_true.1 (show (List.range 11).all (fun j => wB 12 (ltr j) == hasB 12 j) = true by kernel_rfl) j (List.mem_range.2 hj))
  · exact eq_of_beq (List.all_eq_true.1 (show (List.range 11).all (fun j => wB 13 (ltr j) == hasB 13 j) = true by kernel_rfl) j (List.mem_range.2 hj))
  · exact eq_of_beq (List.all_eq_true.1 (show (List.range 11).all (fun j => wB 14 (ltr j) == hasB 14 j) = true by kernel_rfl) j (List.mem_range.2 hj))
  · have e : wB k (ltr j) = false := by unfold wB; rw [pkL_no k hh]; rfl
    rw [e]
    unfold hasB
    rw [parts_none k hh]
    have h := List.all_eq_true.1 (show (List.range 11).all (fun j => !(!(bits .and .i64 (max (-1) 0) (2 ^ j) == 0))) = true by kernel_rfl) j (List.mem_range.2 hj)
    rw [Bool.not_eq_true'] at h
    exact h.symm
set_option maxHeartbeats 1000000 in
theorem with_any (k : Int) (c : Nat) (hc : c < 256) (w : World) : Calls Try.prog 38 #[.int .i64 k, .int .u8 c] w fun e w' => e = .returned (.bool (wB k c)) ∧ w' = w := by
  have hsz : ((pkS k).size : Int) = (pkL k).length := by rw [pkS_size]
  have hl5 := (pkL_bd k).1
  go_enter Try.func38, Try.ntmps38
  go_wp2_with fail
  refine (has_any k w).mono ?_
  rintro e w' ⟨rfl, rfl⟩
  go_wp2_with fail
  go_loopw [6] (fun i wr => ∃ n : Nat, n ≤ (pkL k).length ∧ i = .int .i64 n ∧ wr = w' ∧ ∀ m, m < n → (pkL k).getD m 0 ≠ c) (fun i _ => (pkL k).length - (intOf i).toNat)
  case atStart => exact ⟨0, by omega, rfl, rfl, fun m hm => by omega⟩
  case round =>
    obtain ⟨n, hn, rfl, rfl, hno⟩ := hrel
    have HNo := Lib.hid hno
    clear hno
    by_cases hlt : n < (pkL k).length
    · have hki : (n : Int) < ((pkS k).size : Int) := by omega
      have HGet := Lib.hid (pkS_get k n hlt)
      by_cases hq : (pkL k).getD n 0 = c
      · have hq' : ∀ h, ((((pkS k)[n]'h).toNat : Int) == (c : Int)) = true := fun h => by rw [HGet.out h, hq]; simp
        have HY : Hid (wB k c = true) := Lib.hid (by
          unfold wB
          rw [List.any_eq_true]
          exact ⟨(pkL k)[n], List.getElem_mem hlt, by rw [List.getD_eq_getElem?_getD, List.getElem?_eq_getElem hlt] at hq; simpa using hq⟩)
        clear hq
        go_wp2_with fail
        go_ret
        exact ⟨by rw [HY.out]; rfl, rfl⟩
      · have hq' : ∀ h, ((((pkS k)[n]'h).toNat : Int) == (c : Int)) = false := fun h => by rw [HGet.out h, beq_eq_false_iff_ne]; omega
        have HNo2 : Hid (∀ m, m < n + 1 → (pkL k).getD m 0 ≠ c) := Lib.hid (fun m hm => by
          by_cases e : m = n
          · subst e; exact hq
          · exact HNo.out m (by omega))
        clear hq
        go_wp2_with fail
        exact ⟨⟨n + 1, by omega, by go_num, by first | rfl | trivial, HNo2.out⟩, by simp [intOf]; omega⟩
    · obtain rfl : n = (pkL k).length := by omega
      have HY : Hid (wB k c = false) := Lib.hid (by
        unfold wB
        rw [List.any_eq_false]
        intro x hx
        obtain ⟨i, hi, rfl⟩ := List.getElem_of_mem hx
        have := HNo.out i hi
        rw [List.getD_eq_getElem?_getD, List.getElem?_eq_getElem hi] at this
        simpa using this)
      go_wp2_with fail
      go_ret
      exact ⟨by rw [HY.out]; rfl, rfl⟩
end Go.Proofs.Ytembppihfcclcaa
